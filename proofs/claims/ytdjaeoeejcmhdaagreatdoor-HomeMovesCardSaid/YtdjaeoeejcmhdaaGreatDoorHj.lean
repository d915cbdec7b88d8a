/- Pages that talk: a message is taken. No condition. -/
import Derived.Test.YtdjaeoeejcmhdaaGreatDoorHh
set_option linter.unusedVariables false
set_option linter.unusedSimpArgs false
namespace Go.Proofs.YtdjaeoeejcmhdaaGreatDoor
open Go.RowKit Go.RR
theorem PgT.bd {w : World} {S : Nat → Prop} {pb : Nat} {me number : Int} {st : PgS} {lay : Bool} {ls : List Lt} (h : PgT w S pb me number st lay ls) : PgT w (fun k => S k ∧ k < w.heap.size) pb me number st lay ls := by
  obtain ⟨rb, v, SL, h1, h2, h3, h4, h5⟩ := h.ex
  exact ⟨⟨h.s, h3.lt⟩, rb, v, fun k => SL k ∧ k < w.heap.size, ⟨h1, h4.lt⟩, fun k hk => ⟨⟨(h2 k hk.1).1, hk.2⟩, (h2 k hk.1).2⟩, h3, h4, h5.monoIn fun k hk e => ⟨e, hk⟩⟩
/-- What a page tells of a message, an access, an instruction that is done; and the page behind it. -/
def TellQ (w : World) (S : Nat → Prop) (pb : Nat) (me number : Int) (st : PgS) (lay : Bool) (ls : List Lt) (r : Value) (w' : World) : Prop :=
  ∃ (p : Option Addr) (c : Nat) (SL S2 : Nat → Prop), r = .agg #[.bool lay, .int .i64 st.right, .slice p ls.length c] ∧ (∀ k, SL k → (S k ∨ w.heap.size ≤ k) ∧ ¬ S2 k) ∧ (∀ k, S2 k → S k ∨ w.heap.size ≤ k) ∧ Own w' SL 121 8 (.slice p ls.length c) ls.length (ltsC number ls) ∧ PgN w' S2 pb me number st ∧ Chg S w w'
set_option maxHeartbeats 4000000 in
set_option maxRecDepth 100000 in
theorem take1 {w : World} {S : Nat → Prop} {pb : Nat} {me number : Int} {st st' : PgS} {lay' : Bool} {ls' : List Lt} (h : PgT w S pb me number st false []) (hb : ∀ k, S k → k < w.heap.size) (node hops : Int) (sm : Nat) (dp : Option Addr) (dn dc : Nat)
    (HS : ∀ w', Chg NoB w w' → Calls Tryz.prog 74 #[.pointer (some ⟨pb, 0, none⟩), .agg #[.int .i64 1, .int .i64 number, .int .i64 node, .int .i64 hops, .int .u16 sm, .slice dp dn dc]] w' (RetW (.tuple #[]) (ActQ w' S pb me number st' lay' ls'))) :
    Calls Tryz.prog 30 #[.pointer (some ⟨pb, 0, none⟩), .agg #[.int .i64 1, .int .i64 number, .int .i64 node, .int .i64 hops, .int .u16 sm, .slice dp dn dc]] w (RetV (TellQ w S pb me number st' lay' ls')) := by
  have hs := h.s
  have c0 : Chg NoB w ((w.alloc (.cells #[.int .i64 1, .int .i64 number, .int .i64 node, .int .i64 hops, .int .u16 sm, .slice dp dn dc] 52)).alloc (.cells #[.bool false, .int .i64 0, .slice none 0 0] 73)) := ((Chg.refl NoB w).alloc _).alloc _
  have hM := (Blk.new w #[.int .i64 1, .int .i64 number, .int .i64 node, .int .i64 hops, .int .u16 sm, .slice dp dn dc] 52).alloc (.cells #[.bool false, .int .i64 0, .slice none 0 0] 73)
  have hR := Blk.new (w.alloc (.cells #[.int .i64 1, .int .i64 number, .int .i64 node, .int .i64 hops, .int .u16 sm, .slice dp dn dc] 52)) #[.bool false, .int .i64 0, .slice none 0 0] 73
  rw [World.size_alloc] at hR
  obtain ⟨rb, v, SL, -, -, hB, -, -⟩ := h.ex
  have hB1 := hB.cell' (i := 1) (v := .int .i64 number) rfl
  have hBl := hB.lt
  have HS := Lib.hid HS
  have HB := Lib.hid hb
  have H := Lib.hid (And.intro hs hBl)
  go_enter Tryz.func30, Tryz.ntmps30
  go_upto_region 3 with fail
  have q1 : ∀ w', Chg NoB w w' → w'.cell? ⟨pb, 1, none⟩ = some (.int .i64 number) := fun w' k => (k.blk0 hB).cell' (i := 1) rfl
  have hBB := c0.blk0 hB
  generalize (w.alloc (.cells #[.int .i64 1, .int .i64 number, .int .i64 node, .int .i64 hops, .int .u16 sm, .slice dp dn dc] 52)).alloc (.cells #[.bool false, .int .i64 0, .slice none 0 0] 73) = w0 at *
  obtain ⟨mb, hmb⟩ : ∃ mb, w.heap.size = mb := ⟨_, rfl⟩
  have HMB := Lib.hid hmb
  rw [hmb] at hM hR
  simp only [hmb]
  have g : ∀ w', Chg NoB w0 w' → w'.cell? ⟨pb, 1, none⟩ = some (.int .i64 number) := fun w' k => (k.blk0 hBB).cell' (i := 1) rfl
  have gl : ∀ w', Chg NoB w0 w' → pb < w'.heap.size := fun w' k => (k.blk0 hBB).lt
  have m : ∀ w', Chg NoB w0 w' → ∀ i, w'.cell? ⟨mb, i, none⟩ = #[.int .i64 1, .int .i64 number, .int .i64 node, .int .i64 hops, .int .u16 sm, .slice dp dn dc][i]? := fun w' k i => (k.blk0 hM).cell i
  have ml : ∀ w', Chg NoB w0 w' → mb < w'.heap.size := fun w' k => (k.blk0 hM).lt
  have cc := Chg.refl NoB w0
  have HM := Lib.hid hM
  have HR := Lib.hid hR
  have HC := Lib.hid c0
  have e1 : (number != number) = false := by simp
  clear hB hBB hB1 hBl hM hR c0 h hb hs q1 hmb
  refine wp_region_mix 6 [(true, 0), (true, 1), (true, 2), (true, 3), (true, 4), (true, 5)] (fun w' => Chg NoB w0 w') (by kernel_rfl) (by kernel_rfl) (fun _ _ _ _ _ h => h) (cc.drew) ?_
  simp only [pickMix_nil, pickMix_cons, Option.getD_some, List.getElem?_toArray, List.getElem?_cons_zero, List.getElem?_cons_succ, List.cons_append, List.nil_append, List.drop_succ_cons, List.drop_zero]
  iterate 6
   refine wpMix_take rfl ?_
   apply Exists.intro
   refine ⟨fun wS hS => ?_, ?_⟩
   · try dsimp only at hS
     have cS := hS
     go_simp
     try rfl
   simp only [Act.put, List.setIfInBounds_toArray, List.set_cons_zero, List.set_cons_succ]
  refine wpMix_nil ?_
  have cd := cc.drew
  have hM1 := cd.blk0 HM.out
  have HC1 := Lib.hid (HC.out.step cd)
  have HR1 := Lib.hid (cd.blk0 HR.out)
  have HSub := Lib.hid (HS.out _ HC1.out)
  have HZ1 := Lib.hid cd.size
  clear g gl m ml cc cd
  generalize w0.drew = w1 at *
  have m := hM1.cell
  have ml := hM1.lt
  clear hM1
  go_wp2_with fail
  with_reducible refine HSub.out.mono ?_
  rintro e w2 ⟨rfl, hX, hCX⟩
  have hP := hX.bd
  have HT := Lib.hid (turn_w hP (fun k hk => hk.2))
  have HCX := Lib.hid hCX
  have HR2 := Lib.hid (hCX.blk HR1.out fun e => by have h3 := HB.out _ e; have h4 := HMB.out; omega)
  clear hX hCX hP m ml HSub
  go_wp2_with fail
  with_reducible refine HT.out.mono ?_
  rintro e w3 ⟨r, rfl, p, c, SL, S2, rfl, hSL, hS2, hO, hPg, c3⟩
  have hR3 := c3.blk HR2.out (by have h3 := HB.out _ H.out.1; have h4 := HMB.out; omega)
  have HSA := store_all hR3 [.bool lay', .int .i64 st'.right, .slice p ls'.length c] rfl
  have hbd : ∀ k, S k ∨ w1.heap.size ≤ k → k ≠ mb + 1 := fun k e => by
    have h5 := HR1.out.lt
    rcases e with e | e
    · have h3 := HB.out _ e; have h4 := HMB.out; omega
    · omega
  have hzw : w.heap.size ≤ w1.heap.size := HC1.out.size
  have HF : Hid (Own (w3.setCells (mb + 1) 0 [.bool lay', .int .i64 st'.right, .slice p ls'.length c]) SL 121 8 (.slice p ls'.length c) ls'.length (ltsC number ls') ∧ PgN (w3.setCells (mb + 1) 0 [.bool lay', .int .i64 st'.right, .slice p ls'.length c]) S2 pb me number st' ∧ Chg S w (w3.setCells (mb + 1) 0 [.bool lay', .int .i64 st'.right, .slice p ls'.length c])) := Lib.hid ⟨hO.chg HSA.2 fun k hk e => hbd k (hSL k hk).1.1 e, hPg.chg HSA.2 fun k hk e => hbd k (hS2 k hk).1 e, chg_new24 (((HC1.out.mono (S' := S) fun _ _ e => e.elim).trans HCX.out fun _ _ e => e).trans (c3.mono (S' := S) fun k _ e => by have e : k = pb := e; rw [e]; exact H.out.1) fun _ _ e => e) HSA.2 (by have h4 := HMB.out; omega)⟩
  have HG := Lib.hid (And.intro (show ∀ k, SL k → (S k ∨ w.heap.size ≤ k) ∧ ¬ S2 k from fun k hk => ⟨(hSL k hk).1.1.imp id fun e => Nat.le_trans hzw e, (hSL k hk).2⟩) (show ∀ k, S2 k → S k ∨ w.heap.size ≤ k from fun k hk => (hS2 k hk).1.imp id fun e => Nat.le_trans hzw e))
  have z := hR3.cell
  have zz := hR3.frozen
  have zl := hR3.lt
  obtain ⟨w5, hw5⟩ : ∃ x, w3.setCells (mb + 1) 0 [.bool lay', .int .i64 st'.right, .slice p ls'.length c] = x := ⟨_, rfl⟩
  rw [hw5] at HF HSA
  replace hw5 : ((w3.setCell ⟨mb + 1, 0, none⟩ (.bool lay')).setCell ⟨mb + 1, 1, none⟩ (.int .i64 st'.right)).setCell ⟨mb + 1, 2, none⟩ (.slice p ls'.length c) = w5 := hw5
  have q := HSA.1.cell
  have ql := HSA.1.lt
  clear hR3 HSA hbd hzw hSL hS2 hO hPg c3
  go_wp2_with fail
  exact bodyPost_ret (v := .agg #[.bool lay', .int .i64 st'.right, .slice p ls'.length c]) (by simp [results, Tryz.results30, go_sem, q]) rfl ⟨_, rfl, p, c, SL, S2, rfl, HG.out.1, HG.out.2, HF.out.1, HF.out.2.1, HF.out.2.2⟩
set_option maxHeartbeats 4000000 in
set_option maxRecDepth 100000 in
theorem take2 {w : World} {S : Nat → Prop} {pb : Nat} {me number : Int} {st st' : PgS} {lay' : Bool} {ls' : List Lt} (h : PgT w S pb me number st false []) (hb : ∀ k, S k → k < w.heap.size) (node hops : Int) (sm : Nat) (dp : Option Addr) (dn dc : Nat)
    (HS : ∀ w', Chg NoB w w' → Calls Tryz.prog 74 #[.pointer (some ⟨pb, 0, none⟩), .agg #[.int .i64 2, .int .i64 number, .int .i64 node, .int .i64 hops, .int .u16 sm, .slice dp dn dc]] w' (RetW (.tuple #[]) (ActQ w' S pb me number st' lay' ls'))) :
    Calls Tryz.prog 30 #[.pointer (some ⟨pb, 0, none⟩), .agg #[.int .i64 2, .int .i64 number, .int .i64 node, .int .i64 hops, .int .u16 sm, .slice dp dn dc]] w (RetV (TellQ w S pb me number st' lay' ls')) := by
  have hs := h.s
  have c0 : Chg NoB w ((w.alloc (.cells #[.int .i64 2, .int .i64 number, .int .i64 node, .int .i64 hops, .int .u16 sm, .slice dp dn dc] 52)).alloc (.cells #[.bool false, .int .i64 0, .slice none 0 0] 73)) := ((Chg.refl NoB w).alloc _).alloc _
  have hM := (Blk.new w #[.int .i64 2, .int .i64 number, .int .i64 node, .int .i64 hops, .int .u16 sm, .slice dp dn dc] 52).alloc (.cells #[.bool false, .int .i64 0, .slice none 0 0] 73)
  have hR := Blk.new (w.alloc (.cells #[.int .i64 2, .int .i64 number, .int .i64 node, .int .i64 hops, .int .u16 sm, .slice dp dn dc] 52)) #[.bool false, .int .i64 0, .slice none 0 0] 73
  rw [World.size_alloc] at hR
  obtain ⟨rb, v, SL, -, -, hB, -, -⟩ := h.ex
  have hB1 := hB.cell' (i := 1) (v := .int .i64 number) rfl
  have hBl := hB.lt
  have HS := Lib.hid HS
  have HB := Lib.hid hb
  have H := Lib.hid (And.intro hs hBl)
  go_enter Tryz.func30, Tryz.ntmps30
  go_upto_region 3 with fail
  have q1 : ∀ w', Chg NoB w w' → w'.cell? ⟨pb, 1, none⟩ = some (.int .i64 number) := fun w' k => (k.blk0 hB).cell' (i := 1) rfl
  have hBB := c0.blk0 hB
  generalize (w.alloc (.cells #[.int .i64 2, .int .i64 number, .int .i64 node, .int .i64 hops, .int .u16 sm, .slice dp dn dc] 52)).alloc (.cells #[.bool false, .int .i64 0, .slice none 0 0] 73) = w0 at *
  obtain ⟨mb, hmb⟩ : ∃ mb, w.heap.size = mb := ⟨_, rfl⟩
  have HMB := Lib.hid hmb
  rw [hmb] at hM hR
  simp only [hmb]
  have g : ∀ w', Chg NoB w0 w' → w'.cell? ⟨pb, 1, none⟩ = some (.int .i64 number) := fun w' k => (k.blk0 hBB).cell' (i := 1) rfl
  have gl : ∀ w', Chg NoB w0 w' → pb < w'.heap.size := fun w' k => (k.blk0 hBB).lt
  have m : ∀ w', Chg NoB w0 w' → ∀ i, w'.cell? ⟨mb, i, none⟩ = #[.int .i64 2, .int .i64 number, .int .i64 node, .int .i64 hops, .int .u16 sm, .slice dp dn dc][i]? := fun w' k i => (k.blk0 hM).cell i
  have ml : ∀ w', Chg NoB w0 w' → mb < w'.heap.size := fun w' k => (k.blk0 hM).lt
  have cc := Chg.refl NoB w0
  have HM := Lib.hid hM
  have HR := Lib.hid hR
  have HC := Lib.hid c0
  have e1 : (number != number) = false := by simp
  clear hB hBB hB1 hBl hM hR c0 h hb hs q1 hmb
  refine wp_region_mix 6 [(true, 0), (true, 1), (true, 2), (true, 3), (true, 4), (true, 5)] (fun w' => Chg NoB w0 w') (by kernel_rfl) (by kernel_rfl) (fun _ _ _ _ _ h => h) (cc.drew) ?_
  simp only [pickMix_nil, pickMix_cons, Option.getD_some, List.getElem?_toArray, List.getElem?_cons_zero, List.getElem?_cons_succ, List.cons_append, List.nil_append, List.drop_succ_cons, List.drop_zero]
  iterate 6
   refine wpMix_take rfl ?_
   apply Exists.intro
   refine ⟨fun wS hS => ?_, ?_⟩
   · try dsimp only at hS
     have cS := hS
     go_simp
     try rfl
   simp only [Act.put, List.setIfInBounds_toArray, List.set_cons_zero, List.set_cons_succ]
  refine wpMix_nil ?_
  have cd := cc.drew
  have hM1 := cd.blk0 HM.out
  have HC1 := Lib.hid (HC.out.step cd)
  have HR1 := Lib.hid (cd.blk0 HR.out)
  have HSub := Lib.hid (HS.out _ HC1.out)
  have HZ1 := Lib.hid cd.size
  clear g gl m ml cc cd
  generalize w0.drew = w1 at *
  have m := hM1.cell
  have ml := hM1.lt
  clear hM1
  go_wp2_with fail
  with_reducible refine HSub.out.mono ?_
  rintro e w2 ⟨rfl, hX, hCX⟩
  have hP := hX.bd
  have HT := Lib.hid (turn_w hP (fun k hk => hk.2))
  have HCX := Lib.hid hCX
  have HR2 := Lib.hid (hCX.blk HR1.out fun e => by have h3 := HB.out _ e; have h4 := HMB.out; omega)
  clear hX hCX hP m ml HSub
  go_wp2_with fail
  with_reducible refine HT.out.mono ?_
  rintro e w3 ⟨r, rfl, p, c, SL, S2, rfl, hSL, hS2, hO, hPg, c3⟩
  have hR3 := c3.blk HR2.out (by have h3 := HB.out _ H.out.1; have h4 := HMB.out; omega)
  have HSA := store_all hR3 [.bool lay', .int .i64 st'.right, .slice p ls'.length c] rfl
  have hbd : ∀ k, S k ∨ w1.heap.size ≤ k → k ≠ mb + 1 := fun k e => by
    have h5 := HR1.out.lt
    rcases e with e | e
    · have h3 := HB.out _ e; have h4 := HMB.out; omega
    · omega
  have hzw : w.heap.size ≤ w1.heap.size := HC1.out.size
  have HF : Hid (Own (w3.setCells (mb + 1) 0 [.bool lay', .int .i64 st'.right, .slice p ls'.length c]) SL 121 8 (.slice p ls'.length c) ls'.length (ltsC number ls') ∧ PgN (w3.setCells (mb + 1) 0 [.bool lay', .int .i64 st'.right, .slice p ls'.length c]) S2 pb me number st' ∧ Chg S w (w3.setCells (mb + 1) 0 [.bool lay', .int .i64 st'.right, .slice p ls'.length c])) := Lib.hid ⟨hO.chg HSA.2 fun k hk e => hbd k (hSL k hk).1.1 e, hPg.chg HSA.2 fun k hk e => hbd k (hS2 k hk).1 e, chg_new24 (((HC1.out.mono (S' := S) fun _ _ e => e.elim).trans HCX.out fun _ _ e => e).trans (c3.mono (S' := S) fun k _ e => by have e : k = pb := e; rw [e]; exact H.out.1) fun _ _ e => e) HSA.2 (by have h4 := HMB.out; omega)⟩
  have HG := Lib.hid (And.intro (show ∀ k, SL k → (S k ∨ w.heap.size ≤ k) ∧ ¬ S2 k from fun k hk => ⟨(hSL k hk).1.1.imp id fun e => Nat.le_trans hzw e, (hSL k hk).2⟩) (show ∀ k, S2 k → S k ∨ w.heap.size ≤ k from fun k hk => (hS2 k hk).1.imp id fun e => Nat.le_trans hzw e))
  have z := hR3.cell
  have zz := hR3.frozen
  have zl := hR3.lt
  obtain ⟨w5, hw5⟩ : ∃ x, w3.setCells (mb + 1) 0 [.bool lay', .int .i64 st'.right, .slice p ls'.length c] = x := ⟨_, rfl⟩
  rw [hw5] at HF HSA
  replace hw5 : ((w3.setCell ⟨mb + 1, 0, none⟩ (.bool lay')).setCell ⟨mb + 1, 1, none⟩ (.int .i64 st'.right)).setCell ⟨mb + 1, 2, none⟩ (.slice p ls'.length c) = w5 := hw5
  have q := HSA.1.cell
  have ql := HSA.1.lt
  clear hR3 HSA hbd hzw hSL hS2 hO hPg c3
  go_wp2_with fail
  exact bodyPost_ret (v := .agg #[.bool lay', .int .i64 st'.right, .slice p ls'.length c]) (by simp [results, Tryz.results30, go_sem, q]) rfl ⟨_, rfl, p, c, SL, S2, rfl, HG.out.1, HG.out.2, HF.out.1, HF.out.2.1, HF.out.2.2⟩
set_option maxHeartbeats 4000000 in
set_option maxRecDepth 100000 in
theorem take3 {w : World} {S : Nat → Prop} {pb : Nat} {me number : Int} {st st' : PgS} {lay' : Bool} {ls' : List Lt} (h : PgT w S pb me number st false []) (hb : ∀ k, S k → k < w.heap.size) (node hops : Int) (sm : Nat) (dp : Option Addr) (dn dc : Nat)
    (HS : ∀ w', Chg NoB w w' → Calls Tryz.prog 75 #[.pointer (some ⟨pb, 0, none⟩), .agg #[.int .i64 3, .int .i64 number, .int .i64 node, .int .i64 hops, .int .u16 sm, .slice dp dn dc]] w' (RetW (.tuple #[]) (ActQ w' S pb me number st' lay' ls'))) :
    Calls Tryz.prog 30 #[.pointer (some ⟨pb, 0, none⟩), .agg #[.int .i64 3, .int .i64 number, .int .i64 node, .int .i64 hops, .int .u16 sm, .slice dp dn dc]] w (RetV (TellQ w S pb me number st' lay' ls')) := by
  have hs := h.s
  have c0 : Chg NoB w ((w.alloc (.cells #[.int .i64 3, .int .i64 number, .int .i64 node, .int .i64 hops, .int .u16 sm, .slice dp dn dc] 52)).alloc (.cells #[.bool false, .int .i64 0, .slice none 0 0] 73)) := ((Chg.refl NoB w).alloc _).alloc _
  have hM := (Blk.new w #[.int .i64 3, .int .i64 number, .int .i64 node, .int .i64 hops, .int .u16 sm, .slice dp dn dc] 52).alloc (.cells #[.bool false, .int .i64 0, .slice none 0 0] 73)
  have hR := Blk.new (w.alloc (.cells #[.int .i64 3, .int .i64 number, .int .i64 node, .int .i64 hops, .int .u16 sm, .slice dp dn dc] 52)) #[.bool false, .int .i64 0, .slice none 0 0] 73
  rw [World.size_alloc] at hR
  obtain ⟨rb, v, SL, -, -, hB, -, -⟩ := h.ex
  have hB1 := hB.cell' (i := 1) (v := .int .i64 number) rfl
  have hBl := hB.lt
  have HS := Lib.hid HS
  have HB := Lib.hid hb
  have H := Lib.hid (And.intro hs hBl)
  go_enter Tryz.func30, Tryz.ntmps30
  go_upto_region 3 with fail
  have q1 : ∀ w', Chg NoB w w' → w'.cell? ⟨pb, 1, none⟩ = some (.int .i64 number) := fun w' k => (k.blk0 hB).cell' (i := 1) rfl
  have hBB := c0.blk0 hB
  generalize (w.alloc (.cells #[.int .i64 3, .int .i64 number, .int .i64 node, .int .i64 hops, .int .u16 sm, .slice dp dn dc] 52)).alloc (.cells #[.bool false, .int .i64 0, .slice none 0 0] 73) = w0 at *
  obtain ⟨mb, hmb⟩ : ∃ mb, w.heap.size = mb := ⟨_, rfl⟩
  have HMB := Lib.hid hmb
  rw [hmb] at hM hR
  simp only [hmb]
  have g : ∀ w', Chg NoB w0 w' → w'.cell? ⟨pb, 1, none⟩ = some (.int .i64 number) := fun w' k => (k.blk0 hBB).cell' (i := 1) rfl
  have gl : ∀ w', Chg NoB w0 w' → pb < w'.heap.size := fun w' k => (k.blk0 hBB).lt
  have m : ∀ w', Chg NoB w0 w' → ∀ i, w'.cell? ⟨mb, i, none⟩ = #[.int .i64 3, .int .i64 number, .int .i64 node, .int .i64 hops, .int .u16 sm, .slice dp dn dc][i]? := fun w' k i => (k.blk0 hM).cell i
  have ml : ∀ w', Chg NoB w0 w' → mb < w'.heap.size := fun w' k => (k.blk0 hM).lt
  have cc := Chg.refl NoB w0
  have HM := Lib.hid hM
  have HR := Lib.hid hR
  have HC := Lib.hid c0
  have e1 : (number != number) = false := by simp
  clear hB hBB hB1 hBl hM hR c0 h hb hs q1 hmb
  refine wp_region_mix 6 [(true, 0), (true, 1), (true, 2), (true, 3), (true, 4), (true, 5)] (fun w' => Chg NoB w0 w') (by kernel_rfl) (by kernel_rfl) (fun _ _ _ _ _ h => h) (cc.drew) ?_
  simp only [pickMix_nil, pickMix_cons, Option.getD_some, List.getElem?_toArray, List.getElem?_cons_zero, List.getElem?_cons_succ, List.cons_append, List.nil_append, List.drop_succ_cons, List.drop_zero]
  iterate 6
   refine wpMix_take rfl ?_
   apply Exists.intro
   refine ⟨fun wS hS => ?_, ?_⟩
   · try dsimp only at hS
     have cS := hS
     go_simp
     try rfl
   simp only [Act.put, List.setIfInBounds_toArray, List.set_cons_zero, List.set_cons_succ]
  refine wpMix_nil ?_
  have cd := cc.drew
  have hM1 := cd.blk0 HM.out
  have HC1 := Lib.hid (HC.out.step cd)
  have HR1 := Lib.hid (cd.blk0 HR.out)
  have HSub := Lib.hid (HS.out _ HC1.out)
  have HZ1 := Lib.hid cd.size
  clear g gl m ml cc cd
  generalize w0.drew = w1 at *
  have m := hM1.cell
  have ml := hM1.lt
  clear hM1
  go_wp2_with fail
  with_reducible refine HSub.out.mono ?_
  rintro e w2 ⟨rfl, hX, hCX⟩
  have hP := hX.bd
  have HT := Lib.hid (turn_w hP (fun k hk => hk.2))
  have HCX := Lib.hid hCX
  have HR2 := Lib.hid (hCX.blk HR1.out fun e => by have h3 := HB.out _ e; have h4 := HMB.out; omega)
  clear hX hCX hP m ml HSub
  go_wp2_with fail
  with_reducible refine HT.out.mono ?_
  rintro e w3 ⟨r, rfl, p, c, SL, S2, rfl, hSL, hS2, hO, hPg, c3⟩
  have hR3 := c3.blk HR2.out (by have h3 := HB.out _ H.out.1; have h4 := HMB.out; omega)
  have HSA := store_all hR3 [.bool lay', .int .i64 st'.right, .slice p ls'.length c] rfl
  have hbd : ∀ k, S k ∨ w1.heap.size ≤ k → k ≠ mb + 1 := fun k e => by
    have h5 := HR1.out.lt
    rcases e with e | e
    · have h3 := HB.out _ e; have h4 := HMB.out; omega
    · omega
  have hzw : w.heap.size ≤ w1.heap.size := HC1.out.size
  have HF : Hid (Own (w3.setCells (mb + 1) 0 [.bool lay', .int .i64 st'.right, .slice p ls'.length c]) SL 121 8 (.slice p ls'.length c) ls'.length (ltsC number ls') ∧ PgN (w3.setCells (mb + 1) 0 [.bool lay', .int .i64 st'.right, .slice p ls'.length c]) S2 pb me number st' ∧ Chg S w (w3.setCells (mb + 1) 0 [.bool lay', .int .i64 st'.right, .slice p ls'.length c])) := Lib.hid ⟨hO.chg HSA.2 fun k hk e => hbd k (hSL k hk).1.1 e, hPg.chg HSA.2 fun k hk e => hbd k (hS2 k hk).1 e, chg_new24 (((HC1.out.mono (S' := S) fun _ _ e => e.elim).trans HCX.out fun _ _ e => e).trans (c3.mono (S' := S) fun k _ e => by have e : k = pb := e; rw [e]; exact H.out.1) fun _ _ e => e) HSA.2 (by have h4 := HMB.out; omega)⟩
  have HG := Lib.hid (And.intro (show ∀ k, SL k → (S k ∨ w.heap.size ≤ k) ∧ ¬ S2 k from fun k hk => ⟨(hSL k hk).1.1.imp id fun e => Nat.le_trans hzw e, (hSL k hk).2⟩) (show ∀ k, S2 k → S k ∨ w.heap.size ≤ k from fun k hk => (hS2 k hk).1.imp id fun e => Nat.le_trans hzw e))
  have z := hR3.cell
  have zz := hR3.frozen
  have zl := hR3.lt
  obtain ⟨w5, hw5⟩ : ∃ x, w3.setCells (mb + 1) 0 [.bool lay', .int .i64 st'.right, .slice p ls'.length c] = x := ⟨_, rfl⟩
  rw [hw5] at HF HSA
  replace hw5 : ((w3.setCell ⟨mb + 1, 0, none⟩ (.bool lay')).setCell ⟨mb + 1, 1, none⟩ (.int .i64 st'.right)).setCell ⟨mb + 1, 2, none⟩ (.slice p ls'.length c) = w5 := hw5
  have q := HSA.1.cell
  have ql := HSA.1.lt
  clear hR3 HSA hbd hzw hSL hS2 hO hPg c3
  go_wp2_with fail
  exact bodyPost_ret (v := .agg #[.bool lay', .int .i64 st'.right, .slice p ls'.length c]) (by simp [results, Tryz.results30, go_sem, q]) rfl ⟨_, rfl, p, c, SL, S2, rfl, HG.out.1, HG.out.2, HF.out.1, HF.out.2.1, HF.out.2.2⟩
set_option maxHeartbeats 4000000 in
set_option maxRecDepth 100000 in
theorem take4 {w : World} {S : Nat → Prop} {pb : Nat} {me number : Int} {st st' : PgS} {lay' : Bool} {ls' : List Lt} (h : PgT w S pb me number st false []) (hb : ∀ k, S k → k < w.heap.size) (node hops : Int) (sm : Nat) (dp : Option Addr) (dn dc : Nat)
    (HS : ∀ w', Chg NoB w w' → Calls Tryz.prog 76 #[.pointer (some ⟨pb, 0, none⟩), .agg #[.int .i64 4, .int .i64 number, .int .i64 node, .int .i64 hops, .int .u16 sm, .slice dp dn dc]] w' (RetW (.tuple #[]) (ActQ w' S pb me number st' lay' ls'))) :
    Calls Tryz.prog 30 #[.pointer (some ⟨pb, 0, none⟩), .agg #[.int .i64 4, .int .i64 number, .int .i64 node, .int .i64 hops, .int .u16 sm, .slice dp dn dc]] w (RetV (TellQ w S pb me number st' lay' ls')) := by
  have hs := h.s
  have c0 : Chg NoB w ((w.alloc (.cells #[.int .i64 4, .int .i64 number, .int .i64 node, .int .i64 hops, .int .u16 sm, .slice dp dn dc] 52)).alloc (.cells #[.bool false, .int .i64 0, .slice none 0 0] 73)) := ((Chg.refl NoB w).alloc _).alloc _
  have hM := (Blk.new w #[.int .i64 4, .int .i64 number, .int .i64 node, .int .i64 hops, .int .u16 sm, .slice dp dn dc] 52).alloc (.cells #[.bool false, .int .i64 0, .slice none 0 0] 73)
  have hR := Blk.new (w.alloc (.cells #[.int .i64 4, .int .i64 number, .int .i64 node, .int .i64 hops, .int .u16 sm, .slice dp dn dc] 52)) #[.bool false, .int .i64 0, .slice none 0 0] 73
  rw [World.size_alloc] at hR
  obtain ⟨rb, v, SL, -, -, hB, -, -⟩ := h.ex
  have hB1 := hB.cell' (i := 1) (v := .int .i64 number) rfl
  have hBl := hB.lt
  have HS := Lib.hid HS
  have HB := Lib.hid hb
  have H := Lib.hid (And.intro hs hBl)
  go_enter Tryz.func30, Tryz.ntmps30
  go_upto_region 3 with fail
  have q1 : ∀ w', Chg NoB w w' → w'.cell? ⟨pb, 1, none⟩ = some (.int .i64 number) := fun w' k => (k.blk0 hB).cell' (i := 1) rfl
  have hBB := c0.blk0 hB
  generalize (w.alloc (.cells #[.int .i64 4, .int .i64 number, .int .i64 node, .int .i64 hops, .int .u16 sm, .slice dp dn dc] 52)).alloc (.cells #[.bool false, .int .i64 0, .slice none 0 0] 73) = w0 at *
  obtain ⟨mb, hmb⟩ : ∃ mb, w.heap.size = mb := ⟨_, rfl⟩
  have HMB := Lib.hid hmb
  rw [hmb] at hM hR
  simp only [hmb]
  have g : ∀ w', Chg NoB w0 w' → w'.cell? ⟨pb, 1, none⟩ = some (.int .i64 number) := fun w' k => (k.blk0 hBB).cell' (i := 1) rfl
  have gl : ∀ w', Chg NoB w0 w' → pb < w'.heap.size := fun w' k => (k.blk0 hBB).lt
  have m : ∀ w', Chg NoB w0 w' → ∀ i, w'.cell? ⟨mb, i, none⟩ = #[.int .i64 4, .int .i64 number, .int .i64 node, .int .i64 hops, .int .u16 sm, .slice dp dn dc][i]? := fun w' k i => (k.blk0 hM).cell i
  have ml : ∀ w', Chg NoB w0 w' → mb < w'.heap.size := fun w' k => (k.blk0 hM).lt
  have cc := Chg.refl NoB w0
  have HM := Lib.hid hM
  have HR := Lib.hid hR
  have HC := Lib.hid c0
  have e1 : (number != number) = false := by simp
  clear hB hBB hB1 hBl hM hR c0 h hb hs q1 hmb
  refine wp_region_mix 6 [(true, 0), (true, 1), (true, 2), (true, 3), (true, 4), (true, 5)] (fun w' => Chg NoB w0 w') (by kernel_rfl) (by kernel_rfl) (fun _ _ _ _ _ h => h) (cc.drew) ?_
  simp only [pickMix_nil, pickMix_cons, Option.getD_some, List.getElem?_toArray, List.getElem?_cons_zero, List.getElem?_cons_succ, List.cons_append, List.nil_append, List.drop_succ_cons, List.drop_zero]
  iterate 6
   refine wpMix_take rfl ?_
   apply Exists.intro
   refine ⟨fun wS hS => ?_, ?_⟩
   · try dsimp only at hS
     have cS := hS
     go_simp
     try rfl
   simp only [Act.put, List.setIfInBounds_toArray, List.set_cons_zero, List.set_cons_succ]
  refine wpMix_nil ?_
  have cd := cc.drew
  have hM1 := cd.blk0 HM.out
  have HC1 := Lib.hid (HC.out.step cd)
  have HR1 := Lib.hid (cd.blk0 HR.out)
  have HSub := Lib.hid (HS.out _ HC1.out)
  have HZ1 := Lib.hid cd.size
  clear g gl m ml cc cd
  generalize w0.drew = w1 at *
  have m := hM1.cell
  have ml := hM1.lt
  clear hM1
  go_wp2_with fail
  with_reducible refine HSub.out.mono ?_
  rintro e w2 ⟨rfl, hX, hCX⟩
  have hP := hX.bd
  have HT := Lib.hid (turn_w hP (fun k hk => hk.2))
  have HCX := Lib.hid hCX
  have HR2 := Lib.hid (hCX.blk HR1.out fun e => by have h3 := HB.out _ e; have h4 := HMB.out; omega)
  clear hX hCX hP m ml HSub
  go_wp2_with fail
  with_reducible refine HT.out.mono ?_
  rintro e w3 ⟨r, rfl, p, c, SL, S2, rfl, hSL, hS2, hO, hPg, c3⟩
  have hR3 := c3.blk HR2.out (by have h3 := HB.out _ H.out.1; have h4 := HMB.out; omega)
  have HSA := store_all hR3 [.bool lay', .int .i64 st'.right, .slice p ls'.length c] rfl
  have hbd : ∀ k, S k ∨ w1.heap.size ≤ k → k ≠ mb + 1 := fun k e => by
    have h5 := HR1.out.lt
    rcases e with e | e
    · have h3 := HB.out _ e; have h4 := HMB.out; omega
    · omega
  have hzw : w.heap.size ≤ w1.heap.size := HC1.out.size
  have HF : Hid (Own (w3.setCells (mb + 1) 0 [.bool lay', .int .i64 st'.right, .slice p ls'.length c]) SL 121 8 (.slice p ls'.length c) ls'.length (ltsC number ls') ∧ PgN (w3.setCells (mb + 1) 0 [.bool lay', .int .i64 st'.right, .slice p ls'.length c]) S2 pb me number st' ∧ Chg S w (w3.setCells (mb + 1) 0 [.bool lay', .int .i64 st'.right, .slice p ls'.length c])) := Lib.hid ⟨hO.chg HSA.2 fun k hk e => hbd k (hSL k hk).1.1 e, hPg.chg HSA.2 fun k hk e => hbd k (hS2 k hk).1 e, chg_new24 (((HC1.out.mono (S' := S) fun _ _ e => e.elim).trans HCX.out fun _ _ e => e).trans (c3.mono (S' := S) fun k _ e => by have e : k = pb := e; rw [e]; exact H.out.1) fun _ _ e => e) HSA.2 (by have h4 := HMB.out; omega)⟩
  have HG := Lib.hid (And.intro (show ∀ k, SL k → (S k ∨ w.heap.size ≤ k) ∧ ¬ S2 k from fun k hk => ⟨(hSL k hk).1.1.imp id fun e => Nat.le_trans hzw e, (hSL k hk).2⟩) (show ∀ k, S2 k → S k ∨ w.heap.size ≤ k from fun k hk => (hS2 k hk).1.imp id fun e => Nat.le_trans hzw e))
  have z := hR3.cell
  have zz := hR3.frozen
  have zl := hR3.lt
  obtain ⟨w5, hw5⟩ : ∃ x, w3.setCells (mb + 1) 0 [.bool lay', .int .i64 st'.right, .slice p ls'.length c] = x := ⟨_, rfl⟩
  rw [hw5] at HF HSA
  replace hw5 : ((w3.setCell ⟨mb + 1, 0, none⟩ (.bool lay')).setCell ⟨mb + 1, 1, none⟩ (.int .i64 st'.right)).setCell ⟨mb + 1, 2, none⟩ (.slice p ls'.length c) = w5 := hw5
  have q := HSA.1.cell
  have ql := HSA.1.lt
  clear hR3 HSA hbd hzw hSL hS2 hO hPg c3
  go_wp2_with fail
  exact bodyPost_ret (v := .agg #[.bool lay', .int .i64 st'.right, .slice p ls'.length c]) (by simp [results, Tryz.results30, go_sem, q]) rfl ⟨_, rfl, p, c, SL, S2, rfl, HG.out.1, HG.out.2, HF.out.1, HF.out.2.1, HF.out.2.2⟩
set_option maxHeartbeats 4000000 in
set_option maxRecDepth 100000 in
theorem take5 {w : World} {S : Nat → Prop} {pb : Nat} {me number : Int} {st st' : PgS} {lay' : Bool} {ls' : List Lt} (h : PgT w S pb me number st false []) (hb : ∀ k, S k → k < w.heap.size) (node hops : Int) (sm : Nat) (dp : Option Addr) (dn dc : Nat)
    (HS : ∀ w', Chg NoB w w' → Calls Tryz.prog 77 #[.pointer (some ⟨pb, 0, none⟩), .agg #[.int .i64 5, .int .i64 number, .int .i64 node, .int .i64 hops, .int .u16 sm, .slice dp dn dc]] w' (RetW (.tuple #[]) (ActQ w' S pb me number st' lay' ls'))) :
    Calls Tryz.prog 30 #[.pointer (some ⟨pb, 0, none⟩), .agg #[.int .i64 5, .int .i64 number, .int .i64 node, .int .i64 hops, .int .u16 sm, .slice dp dn dc]] w (RetV (TellQ w S pb me number st' lay' ls')) := by
  have hs := h.s
  have c0 : Chg NoB w ((w.alloc (.cells #[.int .i64 5, .int .i64 number, .int .i64 node, .int .i64 hops, .int .u16 sm, .slice dp dn dc] 52)).alloc (.cells #[.bool false, .int .i64 0, .slice none 0 0] 73)) := ((Chg.refl NoB w).alloc _).alloc _
  have hM := (Blk.new w #[.int .i64 5, .int .i64 number, .int .i64 node, .int .i64 hops, .int .u16 sm, .slice dp dn dc] 52).alloc (.cells #[.bool false, .int .i64 0, .slice none 0 0] 73)
  have hR := Blk.new (w.alloc (.cells #[.int .i64 5, .int .i64 number, .int .i64 node, .int .i64 hops, .int .u16 sm, .slice dp dn dc] 52)) #[.bool false, .int .i64 0, .slice none 0 0] 73
  rw [World.size_alloc] at hR
  obtain ⟨rb, v, SL, -, -, hB, -, -⟩ := h.ex
  have hB1 := hB.cell' (i := 1) (v := .int .i64 number) rfl
  have hBl := hB.lt
  have HS := Lib.hid HS
  have HB := Lib.hid hb
  have H := Lib.hid (And.intro hs hBl)
  go_enter Tryz.func30, Tryz.ntmps30
  go_upto_region 3 with fail
  have q1 : ∀ w', Chg NoB w w' → w'.cell? ⟨pb, 1, none⟩ = some (.int .i64 number) := fun w' k => (k.blk0 hB).cell' (i := 1) rfl
  have hBB := c0.blk0 hB
  generalize (w.alloc (.cells #[.int .i64 5, .int .i64 number, .int .i64 node, .int .i64 hops, .int .u16 sm, .slice dp dn dc] 52)).alloc (.cells #[.bool false, .int .i64 0, .slice none 0 0] 73) = w0 at *
  obtain ⟨mb, hmb⟩ : ∃ mb, w.heap.size = mb := ⟨_, rfl⟩
  have HMB := Lib.hid hmb
  rw [hmb] at hM hR
  simp only [hmb]
  have g : ∀ w', Chg NoB w0 w' → w'.cell? ⟨pb, 1, none⟩ = some (.int .i64 number) := fun w' k => (k.blk0 hBB).cell' (i := 1) rfl
  have gl : ∀ w', Chg NoB w0 w' → pb < w'.heap.size := fun w' k => (k.blk0 hBB).lt
  have m : ∀ w', Chg NoB w0 w' → ∀ i, w'.cell? ⟨mb, i, none⟩ = #[.int .i64 5, .int .i64 number, .int .i64 node, .int .i64 hops, .int .u16 sm, .slice dp dn dc][i]? := fun w' k i => (k.blk0 hM).cell i
  have ml : ∀ w', Chg NoB w0 w' → mb < w'.heap.size := fun w' k => (k.blk0 hM).lt
  have cc := Chg.refl NoB w0
  have HM := Lib.hid hM
  have HR := Lib.hid hR
  have HC := Lib.hid c0
  have e1 : (number != number) = false := by simp
  clear hB hBB hB1 hBl hM hR c0 h hb hs q1 hmb
  refine wp_region_mix 6 [(true, 0), (true, 1), (true, 2), (true, 3), (true, 4), (true, 5)] (fun w' => Chg NoB w0 w') (by kernel_rfl) (by kernel_rfl) (fun _ _ _ _ _ h => h) (cc.drew) ?_
  simp only [pickMix_nil, pickMix_cons, Option.getD_some, List.getElem?_toArray, List.getElem?_cons_zero, List.getElem?_cons_succ, List.cons_append, List.nil_append, List.drop_succ_cons, List.drop_zero]
  iterate 6
   refine wpMix_take rfl ?_
   apply Exists.intro
   refine ⟨fun wS hS => ?_, ?_⟩
   · try dsimp only at hS
     have cS := hS
     go_simp
     try rfl
   simp only [Act.put, List.setIfInBounds_toArray, List.set_cons_zero, List.set_cons_succ]
  refine wpMix_nil ?_
  have cd := cc.drew
  have hM1 := cd.blk0 HM.out
  have HC1 := Lib.hid (HC.out.step cd)
  have HR1 := Lib.hid (cd.blk0 HR.out)
  have HSub := Lib.hid (HS.out _ HC1.out)
  have HZ1 := Lib.hid cd.size
  clear g gl m ml cc cd
  generalize w0.drew = w1 at *
  have m := hM1.cell
  have ml := hM1.lt
  clear hM1
  go_wp2_with fail
  with_reducible refine HSub.out.mono ?_
  rintro e w2 ⟨rfl, hX, hCX⟩
  have hP := hX.bd
  have HT := Lib.hid (turn_w hP (fun k hk => hk.2))
  have HCX := Lib.hid hCX
  have HR2 := Lib.hid (hCX.blk HR1.out fun e => by have h3 := HB.out _ e; have h4 := HMB.out; omega)
  clear hX hCX hP m ml HSub
  go_wp2_with fail
  with_reducible refine HT.out.mono ?_
  rintro e w3 ⟨r, rfl, p, c, SL, S2, rfl, hSL, hS2, hO, hPg, c3⟩
  have hR3 := c3.blk HR2.out (by have h3 := HB.out _ H.out.1; have h4 := HMB.out; omega)
  have HSA := store_all hR3 [.bool lay', .int .i64 st'.right, .slice p ls'.length c] rfl
  have hbd : ∀ k, S k ∨ w1.heap.size ≤ k → k ≠ mb + 1 := fun k e => by
    have h5 := HR1.out.lt
    rcases e with e | e
    · have h3 := HB.out _ e; have h4 := HMB.out; omega
    · omega
  have hzw : w.heap.size ≤ w1.heap.size := HC1.out.size
  have HF : Hid (Own (w3.setCells (mb + 1) 0 [.bool lay', .int .i64 st'.right, .slice p ls'.length c]) SL 121 8 (.slice p ls'.length c) ls'.length (ltsC number ls') ∧ PgN (w3.setCells (mb + 1) 0 [.bool lay', .int .i64 st'.right, .slice p ls'.length c]) S2 pb me number st' ∧ Chg S w (w3.setCells (mb + 1) 0 [.bool lay', .int .i64 st'.right, .slice p ls'.length c])) := Lib.hid ⟨hO.chg HSA.2 fun k hk e => hbd k (hSL k hk).1.1 e, hPg.chg HSA.2 fun k hk e => hbd k (hS2 k hk).1 e, chg_new24 (((HC1.out.mono (S' := S) fun _ _ e => e.elim).trans HCX.out fun _ _ e => e).trans (c3.mono (S' := S) fun k _ e => by have e : k = pb := e; rw [e]; exact H.out.1) fun _ _ e => e) HSA.2 (by have h4 := HMB.out; omega)⟩
  have HG := Lib.hid (And.intro (show ∀ k, SL k → (S k ∨ w.heap.size ≤ k) ∧ ¬ S2 k from fun k hk => ⟨(hSL k hk).1.1.imp id fun e => Nat.le_trans hzw e, (hSL k hk).2⟩) (show ∀ k, S2 k → S k ∨ w.heap.size ≤ k from fun k hk => (hS2 k hk).1.imp id fun e => Nat.le_trans hzw e))
  have z := hR3.cell
  have zz := hR3.frozen
  have zl := hR3.lt
  obtain ⟨w5, hw5⟩ : ∃ x, w3.setCells (mb + 1) 0 [.bool lay', .int .i64 st'.right, .slice p ls'.length c] = x := ⟨_, rfl⟩
  rw [hw5] at HF HSA
  replace hw5 : ((w3.setCell ⟨mb + 1, 0, none⟩ (.bool lay')).setCell ⟨mb + 1, 1, none⟩ (.int .i64 st'.right)).setCell ⟨mb + 1, 2, none⟩ (.slice p ls'.length c) = w5 := hw5
  have q := HSA.1.cell
  have ql := HSA.1.lt
  clear hR3 HSA hbd hzw hSL hS2 hO hPg c3
  go_wp2_with fail
  exact bodyPost_ret (v := .agg #[.bool lay', .int .i64 st'.right, .slice p ls'.length c]) (by simp [results, Tryz.results30, go_sem, q]) rfl ⟨_, rfl, p, c, SL, S2, rfl, HG.out.1, HG.out.2, HF.out.1, HF.out.2.1, HF.out.2.2⟩
set_option maxHeartbeats 4000000 in
set_option maxRecDepth 100000 in
theorem take6 {w : World} {S : Nat → Prop} {pb : Nat} {me number : Int} {st st' : PgS} {lay' : Bool} {ls' : List Lt} (h : PgT w S pb me number st false []) (hb : ∀ k, S k → k < w.heap.size) (node hops : Int) (sm : Nat) (dp : Option Addr) (dn dc : Nat)
    (HS : ∀ w', Chg NoB w w' → Calls Tryz.prog 78 #[.pointer (some ⟨pb, 0, none⟩), .agg #[.int .i64 6, .int .i64 number, .int .i64 node, .int .i64 hops, .int .u16 sm, .slice dp dn dc]] w' (RetW (.tuple #[]) (ActQ w' S pb me number st' lay' ls'))) :
    Calls Tryz.prog 30 #[.pointer (some ⟨pb, 0, none⟩), .agg #[.int .i64 6, .int .i64 number, .int .i64 node, .int .i64 hops, .int .u16 sm, .slice dp dn dc]] w (RetV (TellQ w S pb me number st' lay' ls')) := by
  have hs := h.s
  have c0 : Chg NoB w ((w.alloc (.cells #[.int .i64 6, .int .i64 number, .int .i64 node, .int .i64 hops, .int .u16 sm, .slice dp dn dc] 52)).alloc (.cells #[.bool false, .int .i64 0, .slice none 0 0] 73)) := ((Chg.refl NoB w).alloc _).alloc _
  have hM := (Blk.new w #[.int .i64 6, .int .i64 number, .int .i64 node, .int .i64 hops, .int .u16 sm, .slice dp dn dc] 52).alloc (.cells #[.bool false, .int .i64 0, .slice none 0 0] 73)
  have hR := Blk.new (w.alloc (.cells #[.int .i64 6, .int .i64 number, .int .i64 node, .int .i64 hops, .int .u16 sm, .slice dp dn dc] 52)) #[.bool false, .int .i64 0, .slice none 0 0] 73
  rw [World.size_alloc] at hR
  obtain ⟨rb, v, SL, -, -, hB, -, -⟩ := h.ex
  have hB1 := hB.cell' (i := 1) (v := .int .i64 number) rfl
  have hBl := hB.lt
  have HS := Lib.hid HS
  have HB := Lib.hid hb
  have H := Lib.hid (And.intro hs hBl)
  go_enter Tryz.func30, Tryz.ntmps30
  go_upto_region 3 with fail
  have q1 : ∀ w', Chg NoB w w' → w'.cell? ⟨pb, 1, none⟩ = some (.int .i64 number) := fun w' k => (k.blk0 hB).cell' (i := 1) rfl
  have hBB := c0.blk0 hB
  generalize (w.alloc (.cells #[.int .i64 6, .int .i64 number, .int .i64 node, .int .i64 hops, .int .u16 sm, .slice dp dn dc] 52)).alloc (.cells #[.bool false, .int .i64 0, .slice none 0 0] 73) = w0 at *
  obtain ⟨mb, hmb⟩ : ∃ mb, w.heap.size = mb := ⟨_, rfl⟩
  have HMB := Lib.hid hmb
  rw [hmb] at hM hR
  simp only [hmb]
  have g : ∀ w', Chg NoB w0 w' → w'.cell? ⟨pb, 1, none⟩ = some (.int .i64 number) := fun w' k => (k.blk0 hBB).cell' (i := 1) rfl
  have gl : ∀ w', Chg NoB w0 w' → pb < w'.heap.size := fun w' k => (k.blk0 hBB).lt
  have m : ∀ w', Chg NoB w0 w' → ∀ i, w'.cell? ⟨mb, i, none⟩ = #[.int .i64 6, .int .i64 number, .int .i64 node, .int .i64 hops, .int .u16 sm, .slice dp dn dc][i]? := fun w' k i => (k.blk0 hM).cell i
  have ml : ∀ w', Chg NoB w0 w' → mb < w'.heap.size := fun w' k => (k.blk0 hM).lt
  have cc := Chg.refl NoB w0
  have HM := Lib.hid hM
  have HR := Lib.hid hR
  have HC := Lib.hid c0
  have e1 : (number != number) = false := by simp
  clear hB hBB hB1 hBl hM hR c0 h hb hs q1 hmb
  refine wp_region_mix 6 [(true, 0), (true, 1), (true, 2), (true, 3), (true, 4), (true, 5)] (fun w' => Chg NoB w0 w') (by kernel_rfl) (by kernel_rfl) (fun _ _ _ _ _ h => h) (cc.drew) ?_
  simp only [pickMix_nil, pickMix_cons, Option.getD_some, List.getElem?_toArray, List.getElem?_cons_zero, List.getElem?_cons_succ, List.cons_append, List.nil_append, List.drop_succ_cons, List.drop_zero]
  iterate 6
   refine wpMix_take rfl ?_
   apply Exists.intro
   refine ⟨fun wS hS => ?_, ?_⟩
   · try dsimp only at hS
     have cS := hS
     go_simp
     try rfl
   simp only [Act.put, List.setIfInBounds_toArray, List.set_cons_zero, List.set_cons_succ]
  refine wpMix_nil ?_
  have cd := cc.drew
  have hM1 := cd.blk0 HM.out
  have HC1 := Lib.hid (HC.out.step cd)
  have HR1 := Lib.hid (cd.blk0 HR.out)
  have HSub := Lib.hid (HS.out _ HC1.out)
  have HZ1 := Lib.hid cd.size
  clear g gl m ml cc cd
  generalize w0.drew = w1 at *
  have m := hM1.cell
  have ml := hM1.lt
  clear hM1
  go_wp2_with fail
  with_reducible refine HSub.out.mono ?_
  rintro e w2 ⟨rfl, hX, hCX⟩
  have hP := hX.bd
  have HT := Lib.hid (turn_w hP (fun k hk => hk.2))
  have HCX := Lib.hid hCX
  have HR2 := Lib.hid (hCX.blk HR1.out fun e => by have h3 := HB.out _ e; have h4 := HMB.out; omega)
  clear hX hCX hP m ml HSub
  go_wp2_with fail
  with_reducible refine HT.out.mono ?_
  rintro e w3 ⟨r, rfl, p, c, SL, S2, rfl, hSL, hS2, hO, hPg, c3⟩
  have hR3 := c3.blk HR2.out (by have h3 := HB.out _ H.out.1; have h4 := HMB.out; omega)
  have HSA := store_all hR3 [.bool lay', .int .i64 st'.right, .slice p ls'.length c] rfl
  have hbd : ∀ k, S k ∨ w1.heap.size ≤ k → k ≠ mb + 1 := fun k e => by
    have h5 := HR1.out.lt
    rcases e with e | e
    · have h3 := HB.out _ e; have h4 := HMB.out; omega
    · omega
  have hzw : w.heap.size ≤ w1.heap.size := HC1.out.size
  have HF : Hid (Own (w3.setCells (mb + 1) 0 [.bool lay', .int .i64 st'.right, .slice p ls'.length c]) SL 121 8 (.slice p ls'.length c) ls'.length (ltsC number ls') ∧ PgN (w3.setCells (mb + 1) 0 [.bool lay', .int .i64 st'.right, .slice p ls'.length c]) S2 pb me number st' ∧ Chg S w (w3.setCells (mb + 1) 0 [.bool lay', .int .i64 st'.right, .slice p ls'.length c])) := Lib.hid ⟨hO.chg HSA.2 fun k hk e => hbd k (hSL k hk).1.1 e, hPg.chg HSA.2 fun k hk e => hbd k (hS2 k hk).1 e, chg_new24 (((HC1.out.mono (S' := S) fun _ _ e => e.elim).trans HCX.out fun _ _ e => e).trans (c3.mono (S' := S) fun k _ e => by have e : k = pb := e; rw [e]; exact H.out.1) fun _ _ e => e) HSA.2 (by have h4 := HMB.out; omega)⟩
  have HG := Lib.hid (And.intro (show ∀ k, SL k → (S k ∨ w.heap.size ≤ k) ∧ ¬ S2 k from fun k hk => ⟨(hSL k hk).1.1.imp id fun e => Nat.le_trans hzw e, (hSL k hk).2⟩) (show ∀ k, S2 k → S k ∨ w.heap.size ≤ k from fun k hk => (hS2 k hk).1.imp id fun e => Nat.le_trans hzw e))
  have z := hR3.cell
  have zz := hR3.frozen
  have zl := hR3.lt
  obtain ⟨w5, hw5⟩ : ∃ x, w3.setCells (mb + 1) 0 [.bool lay', .int .i64 st'.right, .slice p ls'.length c] = x := ⟨_, rfl⟩
  rw [hw5] at HF HSA
  replace hw5 : ((w3.setCell ⟨mb + 1, 0, none⟩ (.bool lay')).setCell ⟨mb + 1, 1, none⟩ (.int .i64 st'.right)).setCell ⟨mb + 1, 2, none⟩ (.slice p ls'.length c) = w5 := hw5
  have q := HSA.1.cell
  have ql := HSA.1.lt
  clear hR3 HSA hbd hzw hSL hS2 hO hPg c3
  go_wp2_with fail
  exact bodyPost_ret (v := .agg #[.bool lay', .int .i64 st'.right, .slice p ls'.length c]) (by simp [results, Tryz.results30, go_sem, q]) rfl ⟨_, rfl, p, c, SL, S2, rfl, HG.out.1, HG.out.2, HF.out.1, HF.out.2.1, HF.out.2.2⟩
end Go.Proofs.YtdjaeoeejcmhdaaGreatDoor
