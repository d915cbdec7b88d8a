/- Pages that talk: an instruction is done. No condition. Pages that talk: a right is wanted that is there, or that the owner takes at once. No condition. Pages that talk: a page is granted. No condition. -/
import Derived.Test.YtdjaeoeejcmhdaaGreatDoorHj
set_option linter.unusedVariables false
set_option linter.unusedSimpArgs false
namespace Go.Proofs.YtdjaeoeejcmhdaaGreatDoor
open Go.RowKit Go.RR
set_option maxHeartbeats 4000000 in
set_option maxRecDepth 100000 in
theorem done_no {w : World} {S : Nat → Prop} {pb : Nat} {me number : Int} {st : PgS} (h : PgT w S pb me number st false []) (hb : ∀ k, S k → k < w.heap.size) (hh : st.held = false) :
    Calls Tryz.prog 25 #[.pointer (some ⟨pb, 0, none⟩)] w (RetV (TellQ w S pb me number st false [])) := by
  have c0 : Chg NoB w (w.alloc (.cells #[.bool false, .int .i64 0, .slice none 0 0] 73)) := (Chg.refl NoB w).alloc _
  have HR2 := Lib.hid (Blk.new w #[.bool false, .int .i64 0, .slice none 0 0] 73)
  have h0 := h.chg0 c0
  have HT := Lib.hid (turn_w h0 (fun k hk => Nat.lt_of_lt_of_le (hb k hk) c0.size))
  have HCW := Lib.hid (c0.mono (S' := S) fun _ _ e => e.elim)
  have HB := Lib.hid hb
  have HS := Lib.hid h.s
  have hpl := hb pb h.s
  have HPL := Lib.hid hpl
  obtain ⟨right, owner, prob, set, want, wait, held, forget⟩ := st
  obtain rfl : held = false := hh
  obtain ⟨rb, v, SL0, -, -, hB, -, -⟩ := h0.ex
  have f8 := hB.cell' (i := 8) (v := .bool false) rfl
  have fl := hB.lt
  clear h h0 c0 hb hB hpl
  go_enter Tryz.func25, Tryz.ntmps25
  go_wp2_with fail
  -- at the call of turn in world W2; HT: turn's contract there; HR2: the result's block RB; HCW: Chg S w W2 (hidden); HB; HS (S pb)
  with_reducible refine HT.out.mono ?_
  rintro e w3 ⟨r, rfl, p, c, SL, S2, rfl, hSL, hS2, hO, hPg, c3⟩
  have hR3 := c3.blk HR2.out (by have := HPL.out; omega)
  have HSA := store_all hR3 [.bool false, .int .i64 right, .slice p 0 c] rfl
  have hbd : ∀ k, S k → k ≠ w.heap.size := fun k e => by have h3 := HB.out _ e; omega
  have HF : Hid (Own (w3.setCells w.heap.size 0 [.bool false, .int .i64 right, .slice p 0 c]) SL 121 8 (.slice p 0 c) 0 (ltsC number ([] : List Lt)) ∧ PgN (w3.setCells w.heap.size 0 [.bool false, .int .i64 right, .slice p 0 c]) S2 pb me number ⟨right, owner, prob, set, want, wait, false, forget⟩ ∧ Chg S w (w3.setCells w.heap.size 0 [.bool false, .int .i64 right, .slice p 0 c])) := Lib.hid ⟨hO.chg HSA.2 fun k hk e => hbd k (hSL k hk).1 e, hPg.chg HSA.2 fun k hk e => hbd k (hS2 k hk) e, chg_new24 (HCW.out.trans (c3.mono (S' := S) fun k _ e => by have e : k = pb := e; rw [e]; exact HS.out) fun _ _ e => e) HSA.2 (Nat.le_refl _)⟩
  have HG := Lib.hid (And.intro (show ∀ k, SL k → (S k ∨ w.heap.size ≤ k) ∧ ¬ S2 k from fun k hk => ⟨.inl (hSL k hk).1, (hSL k hk).2⟩) (show ∀ k, S2 k → S k ∨ w.heap.size ≤ k from fun k hk => .inl (hS2 k hk)))
  have z := hR3.cell
  have zz := hR3.frozen
  have zl := hR3.lt
  obtain ⟨w5, hw5⟩ : ∃ x, w3.setCells w.heap.size 0 [.bool false, .int .i64 right, .slice p 0 c] = x := ⟨_, rfl⟩
  rw [hw5] at HF HSA
  replace hw5 : ((w3.setCell ⟨w.heap.size, 0, none⟩ (.bool false)).setCell ⟨w.heap.size, 1, none⟩ (.int .i64 right)).setCell ⟨w.heap.size, 2, none⟩ (.slice p 0 c) = w5 := hw5
  have q := HSA.1.cell
  have ql := HSA.1.lt
  clear hR3 HSA hbd hSL hS2 hO hPg c3
  go_wp2_with fail
  exact bodyPost_ret (v := .agg #[.bool false, .int .i64 right, .slice p 0 c]) (by simp [results, Tryz.results25, go_sem, q]) rfl ⟨_, rfl, p, c, SL, S2, rfl, HG.out.1, HG.out.2, HF.out.1, HF.out.2.1, HF.out.2.2⟩
set_option maxHeartbeats 4000000 in
set_option maxRecDepth 100000 in
theorem done_yes {w : World} {S : Nat → Prop} {pb : Nat} {me number : Int} {st : PgS} (h : PgT w S pb me number st false []) (hb : ∀ k, S k → k < w.heap.size) (hh : st.held = true) (hf : st.forget < 0) :
    Calls Tryz.prog 25 #[.pointer (some ⟨pb, 0, none⟩)] w (RetV (TellQ w S pb me number { st with held := false } false [])) := by
  have hpl := hb pb h.s
  have HPL := Lib.hid hpl
  have HS := Lib.hid h.s
  have HB := Lib.hid hb
  obtain ⟨right, owner, prob, set, want, wait, held, forget⟩ := st
  obtain rfl : held = true := hh
  have hf : forget < 0 := hf
  have t1 : decide (0 ≤ forget) = false := decide_eq_false (by omega)
  have t1' : decide (forget < 0) = true := decide_eq_true hf
  have c1 := (Chg.refl (fun k => k = pb) w).setCell (a := ⟨pb, 8, none⟩) (.inl rfl) (.bool false)
  have h1 := (h.upd (st' := ⟨right, owner, prob, set, want, wait, false, forget⟩) (lay' := false) (fun rb v hB => hB.set 8 (.bool false)) c1).chg0 ((Chg.refl NoB _).alloc (.cells #[.bool false, .int .i64 0, .slice none 0 0] 73))
  have c2 := c1.alloc (.cells #[.bool false, .int .i64 0, .slice none 0 0] 73)
  have hR1 := Blk.new (w.setCell ⟨pb, 8, none⟩ (.bool false)) #[.bool false, .int .i64 0, .slice none 0 0] 73
  rw [World.size_setCell] at hR1
  obtain ⟨rb, v, SL0, -, -, hB, -, -⟩ := h.ex
  have hB : Blk w pb #[.int .i64 me, .int .i64 number, .int .i64 right, .bool owner, .int .i64 prob, .int .u16 set, .int .i64 want, .int .u16 wait, .bool true, .int .i64 forget, .int .i64 0, .pointer (some ⟨rb, 0, none⟩), v, .bool false] 128 := hB
  have f := hB.cell
  have fz := hB.frozen
  have fl := hB.lt
  clear hf h
  go_enter Tryz.func25, Tryz.ntmps25
  go_upto_region 6 with fail
  have HCW := Lib.hid (c2.mono (S' := S) fun k _ e => by have e : k = pb := e; rw [e]; exact HS.out)
  clear f fz fl hB
  generalize (w.setCell ⟨pb, 8, none⟩ (.bool false)).alloc (.cells #[.bool false, .int .i64 0, .slice none 0 0] 73) = w1 at *
  have HR2 := Lib.hid hR1
  have HT := Lib.hid (turn_w h1 (fun k hk => by have h5 := HB.out k hk; have h6 := hR1.lt; omega))
  obtain ⟨rb, v, SL1, -, -, hB, hRb, -⟩ := h1.ex
  have hB : Blk w1 pb #[.int .i64 me, .int .i64 number, .int .i64 right, .bool owner, .int .i64 prob, .int .u16 set, .int .i64 want, .int .u16 wait, .bool false, .int .i64 forget, .int .i64 0, .pointer (some ⟨rb, 0, none⟩), v, .bool false] 128 := hB
  have HLen := Lib.hid (ringLen_any hRb)
  have f := hB.cell
  have fl := hB.lt
  clear hB hRb h1 c1 c2 hR1 hb hpl
  go_wp2_with fail
  go_loopg [42] 0 (fun k v wr => wr = w1)
  case atStart => rfl
  case round =>
    have hwr := hrel
    rename World => wr
    subst hwr
    go_wp2_with fail
    with_reducible refine HLen.out.mono ?_
    rintro e w2 ⟨rfl, hw2⟩
    subst hw2
    go_wp2_with fail
    -- at the call of turn in world W2; HT: turn's contract there; HR2: the result's block RB; HCW: Chg S w W2 (hidden); HB; HS (S pb)
    with_reducible refine HT.out.mono ?_
    rintro e w3 ⟨r, rfl, p, c, SL, S2, rfl, hSL, hS2, hO, hPg, c3⟩
    have hR3 := c3.blk HR2.out (by have := HPL.out; omega)
    have HSA := store_all hR3 [.bool false, .int .i64 right, .slice p 0 c] rfl
    have hbd : ∀ k, S k → k ≠ w.heap.size := fun k e => by have h3 := HB.out _ e; omega
    have HF : Hid (Own (w3.setCells w.heap.size 0 [.bool false, .int .i64 right, .slice p 0 c]) SL 121 8 (.slice p 0 c) 0 (ltsC number ([] : List Lt)) ∧ PgN (w3.setCells w.heap.size 0 [.bool false, .int .i64 right, .slice p 0 c]) S2 pb me number ⟨right, owner, prob, set, want, wait, false, forget⟩ ∧ Chg S w (w3.setCells w.heap.size 0 [.bool false, .int .i64 right, .slice p 0 c])) := Lib.hid ⟨hO.chg HSA.2 fun k hk e => hbd k (hSL k hk).1 e, hPg.chg HSA.2 fun k hk e => hbd k (hS2 k hk) e, chg_new24 (HCW.out.trans (c3.mono (S' := S) fun k _ e => by have e : k = pb := e; rw [e]; exact HS.out) fun _ _ e => e) HSA.2 (Nat.le_refl _)⟩
    have HG := Lib.hid (And.intro (show ∀ k, SL k → (S k ∨ w.heap.size ≤ k) ∧ ¬ S2 k from fun k hk => ⟨.inl (hSL k hk).1, (hSL k hk).2⟩) (show ∀ k, S2 k → S k ∨ w.heap.size ≤ k from fun k hk => .inl (hS2 k hk)))
    have z := hR3.cell
    have zz := hR3.frozen
    have zl := hR3.lt
    obtain ⟨w5, hw5⟩ : ∃ x, w3.setCells w.heap.size 0 [.bool false, .int .i64 right, .slice p 0 c] = x := ⟨_, rfl⟩
    rw [hw5] at HF HSA
    replace hw5 : ((w3.setCell ⟨w.heap.size, 0, none⟩ (.bool false)).setCell ⟨w.heap.size, 1, none⟩ (.int .i64 right)).setCell ⟨w.heap.size, 2, none⟩ (.slice p 0 c) = w5 := hw5
    have q := HSA.1.cell
    have ql := HSA.1.lt
    clear hR3 HSA hbd hSL hS2 hO hPg c3
    go_wp2_with fail
    exact bodyPost_ret (v := .agg #[.bool false, .int .i64 right, .slice p 0 c]) (by simp [results, Tryz.results25, go_sem, q]) rfl ⟨_, rfl, p, c, SL, S2, rfl, HG.out.1, HG.out.2, HF.out.1, HF.out.2.1, HF.out.2.2⟩
end Go.Proofs.YtdjaeoeejcmhdaaGreatDoor
set_option linter.unusedVariables false
set_option linter.unusedSimpArgs false
namespace Go.Proofs.YtdjaeoeejcmhdaaGreatDoor
open Go.RowKit Go.RR
set_option maxHeartbeats 4000000 in
set_option maxRecDepth 100000 in
theorem want_have {w : World} {S : Nat → Prop} {pb : Nat} {me number : Int} {st : PgS} (h : PgT w S pb me number st false []) (hb : ∀ k, S k → k < w.heap.size) (hbz : st.busy = false) (r : Int) (hr : r = 1 ∨ r = 2) (hle : r ≤ st.right) :
    Calls Tryz.prog 21 #[.pointer (some ⟨pb, 0, none⟩), .int .i64 r] w (RetV (TellQ w S pb me number st false [])) := by
  obtain ⟨b1, b2⟩ := busy_parts hbz
  have c0 : Chg NoB w (w.alloc (.cells #[.bool false, .int .i64 0, .slice none 0 0] 73)) := (Chg.refl NoB w).alloc _
  have HR2 := Lib.hid (Blk.new w #[.bool false, .int .i64 0, .slice none 0 0] 73)
  have h0 := h.chg0 c0
  have HBz := Lib.hid (busy_w h0 b1 b2)
  have HT := Lib.hid (turn_w h0 (fun k hk => Nat.lt_of_lt_of_le (hb k hk) c0.size))
  have HCW := Lib.hid (c0.mono (S' := S) fun _ _ e => e.elim)
  have HB := Lib.hid hb
  have HS := Lib.hid h.s
  have HPL := Lib.hid (hb pb h.s)
  obtain ⟨right, owner, prob, set, want, wait, held, forget⟩ := st
  obtain ⟨rb, v, SL0, -, -, hB, -, -⟩ := h0.ex
  have f2 := hB.cell' (i := 2) (v := .int .i64 right) rfl
  have fl := hB.lt
  have hle : r ≤ right := hle
  have t1 : decide (r ≤ right) = true := decide_eq_true hle
  clear h h0 c0 hb hB b1 b2 hbz hle
  rcases hr with rfl | rfl
  all_goals
    go_enter Tryz.func21, Tryz.ntmps21
    go_wp2_with fail
    with_reducible refine HBz.out.mono ?_
    rintro e w1 ⟨rfl, hw1⟩
    subst hw1
    go_wp2_with fail
    with_reducible refine HT.out.mono ?_
    rintro e w3 ⟨r, rfl, p, c, SL, S2, rfl, hSL, hS2, hO, hPg, c3⟩
    try dsimp only [holdF]
    have hR3 := c3.blk HR2.out (by have := HPL.out; omega)
    have HSA := store_all hR3 [.bool false, .int .i64 right, .slice p 0 c] rfl
    have hbd : ∀ k, S k → k ≠ w.heap.size := fun k e => by have h3 := HB.out _ e; omega
    have HF : Hid (Own (w3.setCells w.heap.size 0 [.bool false, .int .i64 right, .slice p 0 c]) SL 121 8 (.slice p 0 c) 0 (ltsC number ([] : List Lt)) ∧ PgN (w3.setCells w.heap.size 0 [.bool false, .int .i64 right, .slice p 0 c]) S2 pb me number ⟨right, owner, prob, set, want, wait, held, forget⟩ ∧ Chg S w (w3.setCells w.heap.size 0 [.bool false, .int .i64 right, .slice p 0 c])) := Lib.hid ⟨hO.chg HSA.2 fun k hk e => hbd k (hSL k hk).1 e, hPg.chg HSA.2 fun k hk e => hbd k (hS2 k hk) e, chg_new24 (HCW.out.trans (c3.mono (S' := S) fun k _ e => by have e : k = pb := e; rw [e]; exact HS.out) fun _ _ e => e) HSA.2 (Nat.le_refl _)⟩
    have HG := Lib.hid (And.intro (show ∀ k, SL k → (S k ∨ w.heap.size ≤ k) ∧ ¬ S2 k from fun k hk => ⟨.inl (hSL k hk).1, (hSL k hk).2⟩) (show ∀ k, S2 k → S k ∨ w.heap.size ≤ k from fun k hk => .inl (hS2 k hk)))
    have z := hR3.cell
    have zz := hR3.frozen
    have zl := hR3.lt
    obtain ⟨w5, hw5⟩ : ∃ x, w3.setCells w.heap.size 0 [.bool false, .int .i64 right, .slice p 0 c] = x := ⟨_, rfl⟩
    rw [hw5] at HF HSA
    replace hw5 : ((w3.setCell ⟨w.heap.size, 0, none⟩ (.bool false)).setCell ⟨w.heap.size, 1, none⟩ (.int .i64 right)).setCell ⟨w.heap.size, 2, none⟩ (.slice p 0 c) = w5 := hw5
    have q := HSA.1.cell
    have ql := HSA.1.lt
    clear hR3 HSA hbd hSL hS2 hO hPg c3
    go_wp2_with fail
    exact bodyPost_ret (v := .agg #[.bool false, .int .i64 right, .slice p 0 c]) (by simp [results, Tryz.results21, go_sem, q]) rfl ⟨_, rfl, p, c, SL, S2, rfl, HG.out.1, HG.out.2, HF.out.1, HF.out.2.1, HF.out.2.2⟩
set_option maxHeartbeats 1000000 in
set_option maxRecDepth 100000 in
theorem gather_zero {w : World} {S : Nat → Prop} {pb : Nat} {me number : Int} {st : PgS} {lay : Bool} {ls : List Lt} (h : PgT w S pb me number st lay ls) (hs : st.set = 0) : Calls Tryz.prog 50 #[.pointer (some ⟨pb, 0, none⟩)] w (RetW (.tuple #[]) fun w' => PgT w' S pb me number (holdF st 2) lay ls ∧ Chg (fun k => k = pb) w w') := by
  have HH := Lib.hid (hold_w h 2)
  obtain ⟨right, owner, prob, set, want, wait, held, forget⟩ := st
  obtain rfl : set = 0 := hs
  obtain ⟨rb, v, SL, -, -, hB, -, -⟩ := h.ex
  have f5 : w.cell? ⟨pb, 5, none⟩ = some (.int .u16 0) := hB.cell' (i := 5) (v := .int .u16 (0 : Nat)) rfl
  have fl := hB.lt
  clear hB h
  go_enter Tryz.func50, Tryz.ntmps50
  go_wp2_with fail
  with_reducible refine HH.out.mono ?_
  rintro e w1 ⟨rfl, hX⟩
  have HX := Lib.hid hX
  clear hX
  go_wp2_with fail
  refine bodyPost_end (results_none rfl _ _ _) rfl ?_
  exact ⟨rfl, HX.out⟩
set_option maxHeartbeats 4000000 in
set_option maxRecDepth 100000 in
theorem want_read {w : World} {S : Nat → Prop} {pb : Nat} {me number : Int} {st : PgS} (h : PgT w S pb me number st false []) (hb : ∀ k, S k → k < w.heap.size) (hbz : st.busy = false) (ho : st.owner = true) (hs : st.set ≠ 0) (hlt : st.right < 1) :
    Calls Tryz.prog 21 #[.pointer (some ⟨pb, 0, none⟩), .int .i64 1] w (RetV (TellQ w S pb me number (holdF st 1) false [])) := by
  obtain ⟨b1, b2⟩ := busy_parts hbz
  have c0 : Chg NoB w (w.alloc (.cells #[.bool false, .int .i64 0, .slice none 0 0] 73)) := (Chg.refl NoB w).alloc _
  have hR2 := Blk.new w #[.bool false, .int .i64 0, .slice none 0 0] 73
  have h0 := h.chg0 c0
  have HBz := Lib.hid (busy_w h0 b1 b2)
  have HHo := Lib.hid (hold_w h0 1)
  have HB := Lib.hid hb
  have HS := Lib.hid h.s
  have HPL := Lib.hid (hb pb h.s)
  have HC := Lib.hid c0
  have HR := Lib.hid hR2
  obtain ⟨right, owner, prob, set, want, wait, held, forget⟩ := st
  obtain rfl : owner = true := ho
  obtain ⟨rb, v, SL0, -, -, hB, -, -⟩ := h0.ex
  have f2 := hB.cell' (i := 2) (v := .int .i64 right) rfl
  have f3 := hB.cell' (i := 3) (v := .bool true) rfl
  have f5 := hB.cell' (i := 5) (v := .int .u16 set) rfl
  have fl := hB.lt
  have hs : set ≠ 0 := hs; have hlt : right < 1 := hlt; have t1 : decide (1 ≤ right) = false := decide_eq_false (by omega); have t1' : decide (right < 1) = true := decide_eq_true hlt; have t2 : ((set : Int) == 0) = false := (by simpa using hs); have t3 : decide (set = 0) = false := decide_eq_false hs; clear hs hlt
  clear h h0 c0 hb hB b1 b2 hbz hR2
  go_enter Tryz.func21, Tryz.ntmps21
  go_wp2_with fail
  with_reducible refine HBz.out.mono ?_
  rintro e w1 ⟨rfl, hw1⟩
  subst hw1
  go_wp2_with fail
  with_reducible refine HHo.out.mono ?_
  rintro e w2 ⟨rfl, hX, hCX⟩
  have hRw := hCX.blk HR.out (by have := HPL.out; omega)
  have HR2 := Lib.hid hRw
  have HT := Lib.hid (turn_w hX (fun k hk => by have h5 := HB.out k hk; have h6 := hRw.lt; omega))
  have HCW := Lib.hid ((HC.out.mono (S' := S) fun _ _ e => e.elim).trans (hCX.mono (S' := S) fun k _ e => by have e : k = pb := e; rw [e]; exact HS.out) fun _ _ e => e)
  clear hX hCX hRw f2 f3 f5 fl
  go_wp2_with fail
  with_reducible refine HT.out.mono ?_
  rintro e w3 ⟨r, rfl, p, c, SL, S2, rfl, hSL, hS2, hO, hPg, c3⟩
  try dsimp only [holdF]
  have hR3 := c3.blk HR2.out (by have := HPL.out; omega)
  have HSA := store_all hR3 [.bool false, .int .i64 1, .slice p 0 c] rfl
  have hbd : ∀ k, S k → k ≠ w.heap.size := fun k e => by have h3 := HB.out _ e; omega
  have HF : Hid (Own (w3.setCells w.heap.size 0 [.bool false, .int .i64 1, .slice p 0 c]) SL 121 8 (.slice p 0 c) 0 (ltsC number ([] : List Lt)) ∧ PgN (w3.setCells w.heap.size 0 [.bool false, .int .i64 1, .slice p 0 c]) S2 pb me number (holdF ⟨right, true, prob, set, want, wait, held, forget⟩ 1) ∧ Chg S w (w3.setCells w.heap.size 0 [.bool false, .int .i64 1, .slice p 0 c])) := Lib.hid ⟨hO.chg HSA.2 fun k hk e => hbd k (hSL k hk).1 e, hPg.chg HSA.2 fun k hk e => hbd k (hS2 k hk) e, chg_new24 (HCW.out.trans (c3.mono (S' := S) fun k _ e => by have e : k = pb := e; rw [e]; exact HS.out) fun _ _ e => e) HSA.2 (Nat.le_refl _)⟩
  have HG := Lib.hid (And.intro (show ∀ k, SL k → (S k ∨ w.heap.size ≤ k) ∧ ¬ S2 k from fun k hk => ⟨.inl (hSL k hk).1, (hSL k hk).2⟩) (show ∀ k, S2 k → S k ∨ w.heap.size ≤ k from fun k hk => .inl (hS2 k hk)))
  have z := hR3.cell
  have zz := hR3.frozen
  have zl := hR3.lt
  obtain ⟨w5, hw5⟩ : ∃ x, w3.setCells w.heap.size 0 [.bool false, .int .i64 1, .slice p 0 c] = x := ⟨_, rfl⟩
  rw [hw5] at HF HSA
  replace hw5 : ((w3.setCell ⟨w.heap.size, 0, none⟩ (.bool false)).setCell ⟨w.heap.size, 1, none⟩ (.int .i64 1)).setCell ⟨w.heap.size, 2, none⟩ (.slice p 0 c) = w5 := hw5
  have q := HSA.1.cell
  have ql := HSA.1.lt
  clear hR3 HSA hbd hSL hS2 hO hPg c3
  go_wp2_with fail
  exact bodyPost_ret (v := .agg #[.bool false, .int .i64 1, .slice p 0 c]) (by simp [results, Tryz.results21, go_sem, q]) rfl ⟨_, rfl, p, c, SL, S2, rfl, HG.out.1, HG.out.2, HF.out.1, HF.out.2.1, HF.out.2.2⟩
set_option maxHeartbeats 4000000 in
set_option maxRecDepth 100000 in
theorem want_zero1 {w : World} {S : Nat → Prop} {pb : Nat} {me number : Int} {st : PgS} (h : PgT w S pb me number st false []) (hb : ∀ k, S k → k < w.heap.size) (hbz : st.busy = false) (ho : st.owner = true) (hs : st.set = 0) (hlt : st.right < 1) :
    Calls Tryz.prog 21 #[.pointer (some ⟨pb, 0, none⟩), .int .i64 1] w (RetV (TellQ w S pb me number (holdF st 2) false [])) := by
  obtain ⟨b1, b2⟩ := busy_parts hbz
  have c0 : Chg NoB w (w.alloc (.cells #[.bool false, .int .i64 0, .slice none 0 0] 73)) := (Chg.refl NoB w).alloc _
  have hR2 := Blk.new w #[.bool false, .int .i64 0, .slice none 0 0] 73
  have h0 := h.chg0 c0
  have HBz := Lib.hid (busy_w h0 b1 b2)
  have HHo := Lib.hid (gather_zero h0 hs)
  have HB := Lib.hid hb
  have HS := Lib.hid h.s
  have HPL := Lib.hid (hb pb h.s)
  have HC := Lib.hid c0
  have HR := Lib.hid hR2
  obtain ⟨right, owner, prob, set, want, wait, held, forget⟩ := st
  obtain rfl : owner = true := ho
  obtain ⟨rb, v, SL0, -, -, hB, -, -⟩ := h0.ex
  have f2 := hB.cell' (i := 2) (v := .int .i64 right) rfl
  have f3 := hB.cell' (i := 3) (v := .bool true) rfl
  have f5 := hB.cell' (i := 5) (v := .int .u16 set) rfl
  have fl := hB.lt
  have hs : set = 0 := hs; subst hs; have f5 : _ = some (Value.int .u16 0) := f5; have hlt : right < 1 := hlt; have t1 : decide (1 ≤ right) = false := decide_eq_false (by omega); have t1' : decide (right < 1) = true := decide_eq_true hlt; clear hlt
  clear h h0 c0 hb hB b1 b2 hbz hR2
  go_enter Tryz.func21, Tryz.ntmps21
  go_wp2_with fail
  with_reducible refine HBz.out.mono ?_
  rintro e w1 ⟨rfl, hw1⟩
  subst hw1
  go_wp2_with fail
  with_reducible refine HHo.out.mono ?_
  rintro e w2 ⟨rfl, hX, hCX⟩
  have hRw := hCX.blk HR.out (by have := HPL.out; omega)
  have HR2 := Lib.hid hRw
  have HT := Lib.hid (turn_w hX (fun k hk => by have h5 := HB.out k hk; have h6 := hRw.lt; omega))
  have HCW := Lib.hid ((HC.out.mono (S' := S) fun _ _ e => e.elim).trans (hCX.mono (S' := S) fun k _ e => by have e : k = pb := e; rw [e]; exact HS.out) fun _ _ e => e)
  clear hX hCX hRw f2 f3 f5 fl
  go_wp2_with fail
  with_reducible refine HT.out.mono ?_
  rintro e w3 ⟨r, rfl, p, c, SL, S2, rfl, hSL, hS2, hO, hPg, c3⟩
  try dsimp only [holdF]
  have hR3 := c3.blk HR2.out (by have := HPL.out; omega)
  have HSA := store_all hR3 [.bool false, .int .i64 2, .slice p 0 c] rfl
  have hbd : ∀ k, S k → k ≠ w.heap.size := fun k e => by have h3 := HB.out _ e; omega
  have HF : Hid (Own (w3.setCells w.heap.size 0 [.bool false, .int .i64 2, .slice p 0 c]) SL 121 8 (.slice p 0 c) 0 (ltsC number ([] : List Lt)) ∧ PgN (w3.setCells w.heap.size 0 [.bool false, .int .i64 2, .slice p 0 c]) S2 pb me number (holdF ⟨right, true, prob, 0, want, wait, held, forget⟩ 2) ∧ Chg S w (w3.setCells w.heap.size 0 [.bool false, .int .i64 2, .slice p 0 c])) := Lib.hid ⟨hO.chg HSA.2 fun k hk e => hbd k (hSL k hk).1 e, hPg.chg HSA.2 fun k hk e => hbd k (hS2 k hk) e, chg_new24 (HCW.out.trans (c3.mono (S' := S) fun k _ e => by have e : k = pb := e; rw [e]; exact HS.out) fun _ _ e => e) HSA.2 (Nat.le_refl _)⟩
  have HG := Lib.hid (And.intro (show ∀ k, SL k → (S k ∨ w.heap.size ≤ k) ∧ ¬ S2 k from fun k hk => ⟨.inl (hSL k hk).1, (hSL k hk).2⟩) (show ∀ k, S2 k → S k ∨ w.heap.size ≤ k from fun k hk => .inl (hS2 k hk)))
  have z := hR3.cell
  have zz := hR3.frozen
  have zl := hR3.lt
  obtain ⟨w5, hw5⟩ : ∃ x, w3.setCells w.heap.size 0 [.bool false, .int .i64 2, .slice p 0 c] = x := ⟨_, rfl⟩
  rw [hw5] at HF HSA
  replace hw5 : ((w3.setCell ⟨w.heap.size, 0, none⟩ (.bool false)).setCell ⟨w.heap.size, 1, none⟩ (.int .i64 2)).setCell ⟨w.heap.size, 2, none⟩ (.slice p 0 c) = w5 := hw5
  have q := HSA.1.cell
  have ql := HSA.1.lt
  clear hR3 HSA hbd hSL hS2 hO hPg c3
  go_wp2_with fail
  exact bodyPost_ret (v := .agg #[.bool false, .int .i64 2, .slice p 0 c]) (by simp [results, Tryz.results21, go_sem, q]) rfl ⟨_, rfl, p, c, SL, S2, rfl, HG.out.1, HG.out.2, HF.out.1, HF.out.2.1, HF.out.2.2⟩
set_option maxHeartbeats 4000000 in
set_option maxRecDepth 100000 in
theorem want_zero2 {w : World} {S : Nat → Prop} {pb : Nat} {me number : Int} {st : PgS} (h : PgT w S pb me number st false []) (hb : ∀ k, S k → k < w.heap.size) (hbz : st.busy = false) (ho : st.owner = true) (hs : st.set = 0) (hlt : st.right < 2) :
    Calls Tryz.prog 21 #[.pointer (some ⟨pb, 0, none⟩), .int .i64 2] w (RetV (TellQ w S pb me number (holdF st 2) false [])) := by
  obtain ⟨b1, b2⟩ := busy_parts hbz
  have c0 : Chg NoB w (w.alloc (.cells #[.bool false, .int .i64 0, .slice none 0 0] 73)) := (Chg.refl NoB w).alloc _
  have hR2 := Blk.new w #[.bool false, .int .i64 0, .slice none 0 0] 73
  have h0 := h.chg0 c0
  have HBz := Lib.hid (busy_w h0 b1 b2)
  have HHo := Lib.hid (gather_zero h0 hs)
  have HB := Lib.hid hb
  have HS := Lib.hid h.s
  have HPL := Lib.hid (hb pb h.s)
  have HC := Lib.hid c0
  have HR := Lib.hid hR2
  obtain ⟨right, owner, prob, set, want, wait, held, forget⟩ := st
  obtain rfl : owner = true := ho
  obtain ⟨rb, v, SL0, -, -, hB, -, -⟩ := h0.ex
  have f2 := hB.cell' (i := 2) (v := .int .i64 right) rfl
  have f3 := hB.cell' (i := 3) (v := .bool true) rfl
  have f5 := hB.cell' (i := 5) (v := .int .u16 set) rfl
  have fl := hB.lt
  have hs : set = 0 := hs; subst hs; have f5 : _ = some (Value.int .u16 0) := f5; have hlt : right < 2 := hlt; have t1 : decide (2 ≤ right) = false := decide_eq_false (by omega); have t1' : decide (right < 2) = true := decide_eq_true hlt; clear hlt
  clear h h0 c0 hb hB b1 b2 hbz hR2
  go_enter Tryz.func21, Tryz.ntmps21
  go_wp2_with fail
  with_reducible refine HBz.out.mono ?_
  rintro e w1 ⟨rfl, hw1⟩
  subst hw1
  go_wp2_with fail
  with_reducible refine HHo.out.mono ?_
  rintro e w2 ⟨rfl, hX, hCX⟩
  have hRw := hCX.blk HR.out (by have := HPL.out; omega)
  have HR2 := Lib.hid hRw
  have HT := Lib.hid (turn_w hX (fun k hk => by have h5 := HB.out k hk; have h6 := hRw.lt; omega))
  have HCW := Lib.hid ((HC.out.mono (S' := S) fun _ _ e => e.elim).trans (hCX.mono (S' := S) fun k _ e => by have e : k = pb := e; rw [e]; exact HS.out) fun _ _ e => e)
  clear hX hCX hRw f2 f3 f5 fl
  go_wp2_with fail
  with_reducible refine HT.out.mono ?_
  rintro e w3 ⟨r, rfl, p, c, SL, S2, rfl, hSL, hS2, hO, hPg, c3⟩
  try dsimp only [holdF]
  have hR3 := c3.blk HR2.out (by have := HPL.out; omega)
  have HSA := store_all hR3 [.bool false, .int .i64 2, .slice p 0 c] rfl
  have hbd : ∀ k, S k → k ≠ w.heap.size := fun k e => by have h3 := HB.out _ e; omega
  have HF : Hid (Own (w3.setCells w.heap.size 0 [.bool false, .int .i64 2, .slice p 0 c]) SL 121 8 (.slice p 0 c) 0 (ltsC number ([] : List Lt)) ∧ PgN (w3.setCells w.heap.size 0 [.bool false, .int .i64 2, .slice p 0 c]) S2 pb me number (holdF ⟨right, true, prob, 0, want, wait, held, forget⟩ 2) ∧ Chg S w (w3.setCells w.heap.size 0 [.bool false, .int .i64 2, .slice p 0 c])) := Lib.hid ⟨hO.chg HSA.2 fun k hk e => hbd k (hSL k hk).1 e, hPg.chg HSA.2 fun k hk e => hbd k (hS2 k hk) e, chg_new24 (HCW.out.trans (c3.mono (S' := S) fun k _ e => by have e : k = pb := e; rw [e]; exact HS.out) fun _ _ e => e) HSA.2 (Nat.le_refl _)⟩
  have HG := Lib.hid (And.intro (show ∀ k, SL k → (S k ∨ w.heap.size ≤ k) ∧ ¬ S2 k from fun k hk => ⟨.inl (hSL k hk).1, (hSL k hk).2⟩) (show ∀ k, S2 k → S k ∨ w.heap.size ≤ k from fun k hk => .inl (hS2 k hk)))
  have z := hR3.cell
  have zz := hR3.frozen
  have zl := hR3.lt
  obtain ⟨w5, hw5⟩ : ∃ x, w3.setCells w.heap.size 0 [.bool false, .int .i64 2, .slice p 0 c] = x := ⟨_, rfl⟩
  rw [hw5] at HF HSA
  replace hw5 : ((w3.setCell ⟨w.heap.size, 0, none⟩ (.bool false)).setCell ⟨w.heap.size, 1, none⟩ (.int .i64 2)).setCell ⟨w.heap.size, 2, none⟩ (.slice p 0 c) = w5 := hw5
  have q := HSA.1.cell
  have ql := HSA.1.lt
  clear hR3 HSA hbd hSL hS2 hO hPg c3
  go_wp2_with fail
  exact bodyPost_ret (v := .agg #[.bool false, .int .i64 2, .slice p 0 c]) (by simp [results, Tryz.results21, go_sem, q]) rfl ⟨_, rfl, p, c, SL, S2, rfl, HG.out.1, HG.out.2, HF.out.1, HF.out.2.1, HF.out.2.2⟩
end Go.Proofs.YtdjaeoeejcmhdaaGreatDoor
set_option linter.unusedVariables false
set_option linter.unusedSimpArgs false
namespace Go.Proofs.YtdjaeoeejcmhdaaGreatDoor
open Go.RowKit Go.RR
set_option maxHeartbeats 4000000 in
set_option maxRecDepth 100000 in
/-- A page that is granted; what gather does of it is a hypothesis. -/
theorem granted_w {w : World} {S : Nat → Prop} {pb m : Nat} {number : Int} {st st' : PgS} {lay lay' : Bool} {ls ls' : List Lt} (h : PgT w S pb m number st lay ls) (hb : ∀ k, S k → k < w.heap.size) (hm : m < 16) (hw : st.want = 2) (ho : st.owner = false) (kind pg node hops : Int) (sm : Nat) (hsm : sm < 65536) (dp : Option Addr) (dn dc : Nat)
    (HS : ∀ w' : World, Chg S w w' → PgT w' S pb m number { st with owner := true, prob := m, set := ndropF sm m } true ls → Calls Tryz.prog 50 #[.pointer (some ⟨pb, 0, none⟩)] w' (RetW (.tuple #[]) (ActQ w' S pb m number st' lay' ls'))) :
    Calls Tryz.prog 76 #[.pointer (some ⟨pb, 0, none⟩), .agg #[.int .i64 kind, .int .i64 pg, .int .i64 node, .int .i64 hops, .int .u16 sm, .slice dp dn dc]] w (RetW (.tuple #[]) (ActQ w S pb m number st' lay' ls')) := by
  have c0 : Chg NoB w (w.alloc (.cells #[.int .i64 kind, .int .i64 pg, .int .i64 node, .int .i64 hops, .int .u16 sm, .slice dp dn dc] 52)) := (Chg.refl NoB w).alloc _
  have hM := Blk.new w #[.int .i64 kind, .int .i64 pg, .int .i64 node, .int .i64 hops, .int .u16 sm, .slice dp dn dc] 52
  have h0 := h.chg0 c0
  have hs := h.s
  have hpl := hb pb hs
  obtain ⟨right, owner, prob, set, want, wait, held, forget⟩ := st
  obtain rfl : want = 2 := hw
  obtain rfl : owner = false := ho
  have HD := Lib.hid (nDropH sm m hsm hm)
  have HS := Lib.hid HS
  obtain ⟨sx, hsx⟩ : ∃ x, ndropF sm m = x := ⟨_, rfl⟩
  simp only [hsx] at HD HS
  obtain ⟨me, hme⟩ : ∃ x : Int, (m : Int) = x := ⟨_, rfl⟩
  have hmp : ¬ w.heap.size = pb := by omega
  simp only [hme] at HD HS h0 ⊢
  have HSz := Lib.hid c0.size
  clear hb h hsm hm hsx hme
  go_enter Tryz.func76, Tryz.ntmps76
  go_upto_region 1 with fail
  generalize w.alloc (.cells #[.int .i64 kind, .int .i64 pg, .int .i64 node, .int .i64 hops, .int .u16 sm, .slice dp dn dc] 52) = w0 at *
  obtain ⟨mb, hmb⟩ : ∃ mb, w.heap.size = mb := ⟨_, rfl⟩
  rw [hmb] at hM hpl hmp
  simp only [hmb]
  have c1 := (Chg.refl (fun k => k = pb) w0).setCell (a := ⟨pb, 13, none⟩) (.inl rfl) (.bool true)
  have h1 := h0.upd (st' := ⟨right, false, prob, set, 2, wait, held, forget⟩) (lay' := true) (fun rb v hB => (hB.set 13 (.bool true))) c1
  have HC := Lib.hid (And.intro hs (And.intro c0 c1))
  have HM1 := Lib.hid (c1.blk hM hmp)
  obtain ⟨rb, v, SL, -, -, hB, -, -⟩ := h0.ex
  have hB : Blk w0 pb #[.int .i64 me, .int .i64 number, .int .i64 right, .bool false, .int .i64 prob, .int .u16 set, .int .i64 2, .int .u16 wait, .bool held, .int .i64 forget, .int .i64 0, .pointer (some ⟨rb, 0, none⟩), v, .bool lay] 128 := hB
  have f := hB.cell
  have fz := hB.frozen
  have fl := hB.lt
  have m := hM.cell
  have ml := hM.lt
  clear hB hM h0 hs c0 hmb hpl hmp
  go_upto_region 3 with fail
  clear f fz fl m ml
  have HH1 := Lib.hid h1
  obtain ⟨rb1, v1, SL1, -, -, hB1, -, -⟩ := h1.ex
  have hB1 : Blk (w0.setCell ⟨pb, 13, none⟩ (.bool true)) pb #[.int .i64 me, .int .i64 number, .int .i64 right, .bool false, .int .i64 prob, .int .u16 set, .int .i64 2, .int .u16 wait, .bool held, .int .i64 forget, .int .i64 0, .pointer (some ⟨rb1, 0, none⟩), v1, .bool true] 128 := hB1
  have HB1 := Lib.hid hB1
  clear h1 c1
  generalize w0.setCell ⟨pb, 13, none⟩ (.bool true) = w1 at *
  have f := hB1.cell
  have fz := hB1.frozen
  have fl := hB1.lt
  have m := HM1.out.cell
  have ml := HM1.out.lt
  clear hB1
  refine wp_region_plan 17 [1, 2] [0, 3, 4, 5, 6, 7, 8, 9, 10, 11, 12, 13, 14, 15, 16] (by kernel_rfl) (by kernel_rfl) (fun _ _ _ _ _ h => h) ?_
  simp only [pickOps_nil, pickOps_cons, Option.getD_some, List.getElem?_toArray, List.getElem?_cons_zero, List.getElem?_cons_succ, List.cons_append, List.nil_append, List.drop_succ_cons, List.drop_zero]
  repeat (go_big_quiet_step ((go_at_call 110; exact quiet0 ((HD.out _).mono fun e w' h => ⟨h.1, h.2.symm⟩))))
  refine wpQuiet_nil ?_
  intro w2 hw2
  have C2 := Chg.of_ex hw2
  clear hw2
  clear f fl fz m ml
  have hB2 : Blk w2 pb #[.int .i64 me, .int .i64 number, .int .i64 right, .bool false, .int .i64 prob, .int .u16 set, .int .i64 2, .int .u16 wait, .bool held, .int .i64 forget, .int .i64 0, .pointer (some ⟨rb1, 0, none⟩), v1, .bool true] 128 := C2.blk0 HB1.out
  have h2 := HH1.out.chg0 C2
  have c2 := (((Chg.refl (fun k => k = pb) w2).setCell (a := ⟨pb, 3, none⟩) (.inl rfl) (.bool true)).setCell (a := ⟨pb, 4, none⟩) (.inl rfl) (.int .i64 me)).setCell (a := ⟨pb, 5, none⟩) (.inl rfl) (.int .u16 sx)
  have h3 := h2.upd (st' := ⟨right, true, me, sx, 2, wait, held, forget⟩) (lay' := true) (fun rb v hB => ((hB.set 3 (.bool true)).set 4 (.int .i64 me)).set 5 (.int .u16 sx)) c2
  have HG := Lib.hid (HS.out _ ((((HC.out.2.1.mono (S' := S) fun _ _ e => e.elim).trans HC.out.2.2 fun k _ e => by have e : k = pb := e; rw [e]; exact HC.out.1).then0 C2).trans c2 fun k _ e => by have e : k = pb := e; rw [e]; exact HC.out.1) h3)
  have HC3 := Lib.hid (And.intro C2 c2)
  have f := hB2.cell
  have fl := hB2.lt
  have fz := hB2.frozen
  clear hB2 h2 c2 h3 C2 HH1 HB1 HS HD
  go_wp2_with fail
  with_reducible refine HG.out.mono ?_
  rintro e w4 ⟨rfl, hX⟩
  have HX := Lib.hid (ActQ.of0 HC.out.2.1 (ActQ.of HC.out.1 HC.out.2.2 (ActQ.of0 HC3.out.1 (ActQ.of HC.out.1 HC3.out.2 hX))))
  clear hX
  go_wp2_with fail
  refine bodyPost_end (results_none rfl _ _ _) rfl ?_
  exact ⟨rfl, HX.out⟩
end Go.Proofs.YtdjaeoeejcmhdaaGreatDoor
