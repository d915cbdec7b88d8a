/- The audit's small functions: sets of nodes, bag, ring, a page at rest, what is between, senders, receivers. No condition. The audit: links at rest (senders, receivers), configs, what is right. No condition. The audit: homes at rest: their pages, their states. No condition. -/
import Derived.Test.YtleilfkcjollaaaGreatGa
import Derived.Test.YtleilfkcjollaaaGreatProg
import Derived.Test.YtleilfkcjollaaaGreatGd
import Derived.MapKept
set_option linter.unusedVariables false
set_option linter.unusedSimpArgs false
namespace Go.Proofs.YtleilfkcjollaaaGreat
open Go.RowKit Go.RR
theorem between_any (n a b : Int) (w : World) : Calls Tryz.prog 81 #[.int .i64 n, .int .i64 a, .int .i64 b] w (RetW (.bool (decide (a ≤ n) && decide (n ≤ b))) fun w' => w' = w) := by
  generalize h1 : decide (a ≤ n) = b1
  generalize h2 : decide (n ≤ b) = b2
  cases b1 <;> cases b2 <;>
  · go_enter Tryz.func81, Tryz.ntmps81
    go_wp2_with fail
    go_ret
    exact ⟨rfl, rfl⟩
theorem nbit_any (n : Nat) (hn : n < 16) (w : World) : Calls Tryz.prog 63 #[.int .i64 n] w (RetW (.int .u16 ((2 ^ n : Nat) : Int)) fun w' => w' = w) := by
  have t1 : decide ((n : Int) < 0) = false := decide_eq_false (by omega)
  have t2 : decide ((16 : Int) ≤ n) = false := decide_eq_false (by omega)
  iterate 16 (rcases n with _ | n; · (go_enter Tryz.func63, Tryz.ntmps63; go_wp2_with fail; go_ret; exact ⟨rfl, rfl⟩))
  omega
theorem netNew_any (w : World) : Calls Tryz.prog 50 #[] w (RetW (.pointer (some ⟨w.heap.size, 0, none⟩)) fun w' => Chg NoB w w' ∧ w.heap.size < w'.heap.size) := by
  have hC := Lib.hid ((Chg.refl NoB w).alloc (.cells #[.slice none 0 0, .int .i64 0] 180))
  go_enter Tryz.func50, Tryz.ntmps50
  go_wp2_with fail
  go_ret
  exact ⟨rfl, hC.out, by simp⟩
/-- A ring that nothing was pushed into. -/
def ringC : Array Value := #[.slice none 0 0, .int .i64 0, .int .i64 0, .int .i64 16]
theorem ringNew_any (w : World) : Calls Tryz.prog 137 #[.int .i64 16] w (RetW (.pointer (some ⟨w.heap.size, 0, none⟩)) fun w' => Blk w' w.heap.size ringC 280 ∧ Chg NoB w w') := by
  have hB := Lib.hid (Blk.new w ringC 280)
  have hC := Lib.hid ((Chg.refl NoB w).alloc (.cells ringC 280))
  go_enter Tryz.func137, Tryz.ntmps137
  go_wp2_with fail
  go_ret
  exact ⟨rfl, hB.out, hC.out⟩
theorem ringLen_any {w : World} {rb : Nat} (h : Blk w rb ringC 280) : Calls Tryz.prog 97 #[.pointer (some ⟨rb, 0, none⟩)] w (RetW (.int .i64 0) fun w' => w' = w) := by
  have f := h.cell' (i := 2) (v := .int .i64 0) rfl
  have fl := h.lt
  go_enter Tryz.func97, Tryz.ntmps97
  go_wp2_with fail
  go_ret
  exact ⟨rfl, rfl⟩
/-- The state of a page at rest. -/
def stC (me owner : Int) : Array Value := #[.int .i64 0, .bool (owner == me), .int .i64 owner, .int .u16 0, .int .i64 0, .int .u16 0, .bool false, .int .i64 (-1), .int .i64 0]
def pgC (me owner number : Int) (rb : Nat) : Array Value := #[.int .i64 me, .int .i64 number, .int .i64 0, .bool (owner == me), .int .i64 owner, .int .u16 0, .int .i64 0, .int .u16 0, .bool false, .int .i64 (-1), .int .i64 0, .pointer (some ⟨rb, 0, none⟩), .slice none 0 0, .bool false]
/-- A page at rest. -/
structure PgAt (w : World) (pb rb : Nat) (me owner number : Int) : Prop where
  blk : Blk w pb (pgC me owner number rb) 212
  ring : Blk w rb ringC 280
theorem PgAt.chg0 {w w' : World} {pb rb : Nat} {me owner number : Int} (h : PgAt w pb rb me owner number) (c : Chg NoB w w') : PgAt w' pb rb me owner number := ⟨c.blk0 h.blk, c.blk0 h.ring⟩
set_option maxHeartbeats 1000000 in
set_option maxRecDepth 100000 in
theorem pageState_any {w : World} {pb rb : Nat} {me owner number : Int} (h : PgAt w pb rb me owner number) : Calls Tryz.prog 59 #[.pointer (some ⟨pb, 0, none⟩)] w (RetW (.agg (stC me owner)) fun w' => Chg NoB w w') := by
  obtain ⟨b, hb⟩ : ∃ b, (owner == me) = b := ⟨_, rfl⟩
  have hblk := h.blk
  unfold stC
  unfold pgC at hblk
  rw [hb] at hblk ⊢
  have HR := Lib.hid h.ring
  have HK := Lib.hid hblk
  have f := hblk.cell
  have fl := hblk.lt
  clear h hb hblk
  go_enter Tryz.func59, Tryz.ntmps59
  go_upto_region 4 with fail
  have hC := ((Chg.refl NoB w).alloc (.cells #[.int .i64 0, .bool false, .int .i64 0, .int .u16 0, .int .i64 0, .int .u16 0, .bool false, .int .i64 0, .int .i64 0] 53)).alloc (.cells #[.int .i64 0, .bool b, .int .i64 owner, .int .u16 0, .int .i64 0, .int .u16 0, .bool false, .int .i64 (-1), .int .i64 0] 53)
  have hB1 : Blk ((w.alloc (.cells #[.int .i64 0, .bool false, .int .i64 0, .int .u16 0, .int .i64 0, .int .u16 0, .bool false, .int .i64 0, .int .i64 0] 53)).alloc (.cells #[.int .i64 0, .bool b, .int .i64 owner, .int .u16 0, .int .i64 0, .int .u16 0, .bool false, .int .i64 (-1), .int .i64 0] 53)) w.heap.size #[.int .i64 0, .bool false, .int .i64 0, .int .u16 0, .int .i64 0, .int .u16 0, .bool false, .int .i64 0, .int .i64 0] 53 := (Blk.new w #[.int .i64 0, .bool false, .int .i64 0, .int .u16 0, .int .i64 0, .int .u16 0, .bool false, .int .i64 0, .int .i64 0] 53).alloc _
  have hB2 := Blk.new (w.alloc (.cells #[.int .i64 0, .bool false, .int .i64 0, .int .u16 0, .int .i64 0, .int .u16 0, .bool false, .int .i64 0, .int .i64 0] 53)) #[.int .i64 0, .bool b, .int .i64 owner, .int .u16 0, .int .i64 0, .int .u16 0, .bool false, .int .i64 (-1), .int .i64 0] 53
  rw [World.size_alloc] at hB2
  have hK2 := hC.blk0 HK.out
  have HR2 := Lib.hid (hC.blk0 HR.out)
  generalize (w.alloc (.cells #[.int .i64 0, .bool false, .int .i64 0, .int .u16 0, .int .i64 0, .int .u16 0, .bool false, .int .i64 0, .int .i64 0] 53)).alloc (.cells #[.int .i64 0, .bool b, .int .i64 owner, .int .u16 0, .int .i64 0, .int .u16 0, .bool false, .int .i64 (-1), .int .i64 0] 53) = w2 at *
  obtain ⟨b1, hb1⟩ : ∃ b, w.heap.size = b := ⟨_, rfl⟩
  have HW1 : Hid (w.heap.size = b1) := Lib.hid hb1
  rw [hb1] at hB1 hB2
  simp only [hb1]
  have HB1 := Lib.hid hB1
  have HB2 := Lib.hid hB2
  have HC := Lib.hid hC
  have f11 := hK2.cell' (i := 11) (v := .pointer (some ⟨rb, 0, none⟩)) rfl
  have fl2 := hK2.lt
  clear f fl hB1 hB2 hC hK2 hb1 HK HR
  go_wp2_with fail
  refine (ringLen_any HR2.out).mono ?_
  rintro e w3 ⟨rfl, hw3⟩
  subst hw3
  have g := HB2.out.cell
  have gz := HB2.out.frozen
  have gl := HB2.out.lt
  have k := HB1.out.cell
  have kz := HB1.out.frozen
  have kl := HB1.out.lt
  clear f11 fl2
  go_wp2_with fail
  have hB0 : Blk (w3.setCell ⟨b1 + 1, 8, none⟩ (.int .i64 0)) b1 _ 53 := HB1.out.set_ne (a := ⟨b1 + 1, 8, none⟩) (by show b1 ≠ b1 + 1; omega) (.int .i64 0)
  have hB : Blk _ b1 #[.int .i64 0, .bool b, .int .i64 owner, .int .u16 0, .int .i64 0, .int .u16 0, .bool false, .int .i64 (-1), .int .i64 0] 53 := ((((((((hB0.set 0 (.int .i64 0)).set 1 (.bool b)).set 2 (.int .i64 owner)).set 3 (.int .u16 0)).set 4 (.int .i64 0)).set 5 (.int .u16 0)).set 6 (.bool false)).set 7 (.int .i64 (-1))).set 8 (.int .i64 0)
  have hb2 : w.heap.size ≤ b1 + 1 := by rw [HW1.out]; omega
  have hb1 : w.heap.size ≤ b1 := by rw [HW1.out]; exact Nat.le_refl _
  have hC := ((((((((((HC.out.setCell (a := ⟨b1 + 1, 8, none⟩) (.inr hb2) (.int .i64 0)).setCell (a := ⟨b1, 0, none⟩) (.inr hb1) (.int .i64 0)).setCell (a := ⟨b1, 1, none⟩) (.inr hb1) (.bool b)).setCell (a := ⟨b1, 2, none⟩) (.inr hb1) (.int .i64 owner)).setCell (a := ⟨b1, 3, none⟩) (.inr hb1) (.int .u16 0)).setCell (a := ⟨b1, 4, none⟩) (.inr hb1) (.int .i64 0)).setCell (a := ⟨b1, 5, none⟩) (.inr hb1) (.int .u16 0)).setCell (a := ⟨b1, 6, none⟩) (.inr hb1) (.bool false)).setCell (a := ⟨b1, 7, none⟩) (.inr hb1) (.int .i64 (-1))).setCell (a := ⟨b1, 8, none⟩) (.inr hb1) (.int .i64 0))
  generalize (((((((((w3.setCell ⟨b1 + 1, 8, none⟩ (.int .i64 0)).setCell ⟨b1, 0, none⟩ (.int .i64 0)).setCell ⟨b1, 1, none⟩ (.bool b)).setCell ⟨b1, 2, none⟩ (.int .i64 owner)).setCell ⟨b1, 3, none⟩ (.int .u16 0)).setCell ⟨b1, 4, none⟩ (.int .i64 0)).setCell ⟨b1, 5, none⟩ (.int .u16 0)).setCell ⟨b1, 6, none⟩ (.bool false)).setCell ⟨b1, 7, none⟩ (.int .i64 (-1))).setCell ⟨b1, 8, none⟩ (.int .i64 0) = w9 at *
  have q := hB.cell
  have ql := hB.lt
  exact bodyPost_ret (v := .agg #[.int .i64 0, .bool b, .int .i64 owner, .int .u16 0, .int .i64 0, .int .u16 0, .bool false, .int .i64 (-1), .int .i64 0]) (by simp [results, Tryz.results59, go_sem, q, ql]) rfl ⟨rfl, hC⟩
set_option maxHeartbeats 1000000 in
set_option maxRecDepth 100000 in
theorem pageNew_any (me owner number : Int) (w : World) : Calls Tryz.prog 96 #[.int .i64 me, .int .i64 owner, .int .i64 number] w (RetV fun v w' => ∃ pb rb, v = .pointer (some ⟨pb, 0, none⟩) ∧ w.heap.size ≤ pb ∧ w.heap.size ≤ rb ∧ PgAt w' pb rb me owner number ∧ Chg NoB w w') := by
  obtain ⟨b, hb⟩ : ∃ b, (owner == me) = b := ⟨_, rfl⟩
  have HBE := Lib.hid hb
  have hB := Lib.hid (Blk.new w #[.int .i64 0, .bool b, .int .i64 owner, .int .u16 0, .int .i64 0, .int .u16 0, .bool false, .int .i64 (-1), .int .i64 0] 53)
  have hC := Lib.hid ((Chg.refl NoB w).alloc (.cells #[.int .i64 0, .bool b, .int .i64 owner, .int .u16 0, .int .i64 0, .int .u16 0, .bool false, .int .i64 (-1), .int .i64 0] 53))
  go_enter Tryz.func96, Tryz.ntmps96
  go_upto_region 2 with fail
  obtain ⟨bs, hbs⟩ : ∃ b, w.heap.size = b := ⟨_, rfl⟩
  have HW := Lib.hid hbs
  rw [hbs] at hB
  simp only [hbs]
  generalize w.alloc (.cells #[.int .i64 0, .bool b, .int .i64 owner, .int .u16 0, .int .i64 0, .int .u16 0, .bool false, .int .i64 (-1), .int .i64 0] 53) = w1 at *
  clear hbs hb
  have g : ∀ w', Chg NoB w1 w' → ∀ i, w'.cell? ⟨bs, i, none⟩ = (#[.int .i64 0, .bool b, .int .i64 owner, .int .u16 0, .int .i64 0, .int .u16 0, .bool false, .int .i64 (-1), .int .i64 0] : Array Value)[i]? := fun w' c i => (c.blk0 hB.out).cell i
  have gl : ∀ w', Chg NoB w1 w' → bs < w'.heap.size := fun w' c => (c.blk0 hB.out).lt
  refine wp_region_mix 4 [(true, 0), (true, 1), (true, 2), (false, 3)] (fun w' => Chg NoB w1 w') (by kernel_rfl) (by kernel_rfl) (fun _ _ _ _ _ h => h) ((Chg.refl NoB w1).drew) ?_
  simp only [pickMix_nil, pickMix_cons, Option.getD_some, List.getElem?_toArray, List.getElem?_cons_zero, List.getElem?_cons_succ, List.cons_append, List.nil_append, List.drop_succ_cons, List.drop_zero]
  iterate 3
   refine wpMix_take rfl ?_
   apply Exists.intro
   refine ⟨fun wS hS => ?_, ?_⟩
   · try dsimp only at hS
     have cS := hS
     go_simp
     try rfl
   simp only [Act.put, List.setIfInBounds_toArray, List.set_cons_zero, List.set_cons_succ]
  refine wpMix_force rfl (fun K hK => ?_)
  go_simp
  refine (ringNew_any _).mono ?_
  rintro e w2 ⟨rfl, hR, hC2⟩
  have C2 : Chg NoB w1 w2 := (Chg.refl NoB w1).drew.step hC2
  have HR := Lib.hid hR
  refine hK _ _ C2 ?_
  clear hK K hR hC2
  refine wpMix_nil ?_
  have hP := Blk.new w2 #[.int .i64 me, .int .i64 number, .int .i64 0, .bool b, .int .i64 owner, .int .u16 0, .int .i64 0, .int .u16 0, .bool false, .int .i64 (-1), .int .i64 0, .pointer (some ⟨w1.heap.size, 0, none⟩), .slice none 0 0, .bool false] 212
  have HP := Lib.hid hP
  clear hP g gl
  have HR2 := Lib.hid (HR.out.alloc (.cells #[.int .i64 me, .int .i64 number, .int .i64 0, .bool b, .int .i64 owner, .int .u16 0, .int .i64 0, .int .u16 0, .bool false, .int .i64 (-1), .int .i64 0, .pointer (some ⟨w1.heap.size, 0, none⟩), .slice none 0 0, .bool false] 212))
  have HC3 := Lib.hid ((hC.out.step C2).alloc (.cells #[.int .i64 me, .int .i64 number, .int .i64 0, .bool b, .int .i64 owner, .int .u16 0, .int .i64 0, .int .u16 0, .bool false, .int .i64 (-1), .int .i64 0, .pointer (some ⟨w1.heap.size, 0, none⟩), .slice none 0 0, .bool false] 212))
  have h1 := Lib.hid (And.intro hC.out.size C2.size)
  clear C2 hC
  go_wp2_with fail
  go_ret
  refine ⟨_, rfl, _, _, rfl, Nat.le_trans h1.out.1 h1.out.2, h1.out.1, ⟨?_, HR2.out⟩, HC3.out⟩
  unfold pgC
  rw [HBE.out]
  exact HP.out
end Go.Proofs.YtleilfkcjollaaaGreat
set_option linter.unusedVariables false
set_option linter.unusedSimpArgs false
namespace Go.Proofs.YtleilfkcjollaaaGreat
open Go.RowKit Go.RR
def sdC : Array Value := #[.int .i64 2, .int .i64 3, .int .i64 12, .slice none 0 0, .slice none 0 0, .int .u64 1]
theorem sendNew_any (w : World) : Calls Tryz.prog 79 #[.int .i64 2, .int .i64 3, .int .i64 12] w (RetW (.tuple #[.pointer (some ⟨w.heap.size, 0, none⟩), .int .i64 0]) fun w' => Blk w' w.heap.size sdC 240 ∧ Chg NoB w w') := by
  have hB := Lib.hid (Blk.new w sdC 240)
  have hC := Lib.hid ((Chg.refl NoB w).alloc (.cells sdC 240))
  go_enter Tryz.func79, Tryz.ntmps79
  go_wp2_with fail
  go_ret2
  exact ⟨rfl, hB.out, hC.out⟩
theorem line_any {w : World} {sb : Nat} (h : Blk w sb sdC 240) : Calls Tryz.prog 102 #[.pointer (some ⟨sb, 0, none⟩)] w (RetW (.int .i64 0) fun w' => w' = w) := by
  have f := h.cell' (i := 3) (v := .slice none 0 0) rfl
  have fl := h.lt
  go_enter Tryz.func102, Tryz.ntmps102
  go_wp2_with fail
  go_ret
  exact ⟨rfl, rfl⟩
theorem flight_any {w : World} {sb : Nat} (h : Blk w sb sdC 240) : Calls Tryz.prog 103 #[.pointer (some ⟨sb, 0, none⟩)] w (RetW (.int .i64 0) fun w' => w' = w) := by
  have f := h.cell' (i := 4) (v := .slice none 0 0) rfl
  have fl := h.lt
  go_enter Tryz.func103, Tryz.ntmps103
  go_wp2_with fail
  go_ret
  exact ⟨rfl, rfl⟩
/-- A receiver at rest. -/
def RvAt (w : World) (S : Nat → Prop) (rb : Nat) : Prop := ∃ mb, (S rb ∧ S mb) ∧ Blk w rb #[.int .i64 2, .int .u64 1, .map (some mb)] 243 ∧ w.heap[mb]? = some (.map #[] 0)
theorem RvAt.chg {w w' : World} {S S' : Nat → Prop} {rb : Nat} (h : RvAt w S rb) (c : Chg S' w w') (hs : ∀ k, S k → ¬ S' k) : RvAt w' S rb := by
  obtain ⟨mb, h0, h1, h2⟩ := h
  have hlt : mb < w.heap.size := by
    by_cases h : mb < w.heap.size
    · exact h
    · rw [Array.getElem?_eq_none (by omega)] at h2; cases h2
  refine ⟨mb, h0, c.blk h1 (hs _ h0.1), ?_⟩
  rw [c.block mb hlt (hs _ h0.2)]
  exact h2
theorem RvAt.chg0 {w w' : World} {S : Nat → Prop} {rb : Nat} (h : RvAt w S rb) (c : Chg NoB w w') : RvAt w' S rb := h.chg c fun _ _ => id
theorem RvAt.mono {w : World} {S S' : Nat → Prop} {rb : Nat} (h : RvAt w S rb) (hs : ∀ k, k < w.heap.size → S k → S' k) : RvAt w S' rb := by
  obtain ⟨mb, h0, h1, h2⟩ := h
  exact ⟨mb, ⟨hs _ h1.lt h0.1, hs _ (Array.getElem?_eq_some_iff.1 h2).1 h0.2⟩, h1, h2⟩
theorem recvNew_any (w : World) : Calls Tryz.prog 80 #[.int .i64 2] w (RetV fun v w' => ∃ rb, v = .tuple #[.pointer (some ⟨rb, 0, none⟩), .int .i64 0] ∧ w.heap.size ≤ rb ∧ RvAt w' (fun k => w.heap.size ≤ k) rb ∧ Chg NoB w w') := by
  have hmm := @run_makeMap Tryz.prog
  go_enter Tryz.func80, Tryz.ntmps80
  go_wp2_with fail
  go_ret2
  refine ⟨_, rfl, _, rfl, ?_, ⟨w.heap.size, ?_, ?_, ?_⟩, ((Chg.refl _ _).alloc _).alloc _⟩
  · simp
  · exact ⟨by simp, Nat.le_refl _⟩
  · have := Blk.new (w.alloc (.map #[] 0)) #[.int .i64 2, .int .u64 1, .map (some w.heap.size)] 243
    simpa using this
  · rw [((Chg.refl NoB (w.alloc (.map #[] 0))).alloc _).block w.heap.size (by rw [World.size_alloc]; omega) id]
    show (w.heap.push (.map #[] 0))[w.heap.size]? = _
    exact Array.getElem?_push_size
theorem early_any {w : World} {S : Nat → Prop} {rb : Nat} (h : RvAt w S rb) : Calls Tryz.prog 104 #[.pointer (some ⟨rb, 0, none⟩)] w (RetW (.int .i64 0) fun w' => w' = w) := by
  obtain ⟨mb, -, h1, h2⟩ := h
  have f := h1.cell' (i := 2) (v := .map (some mb)) rfl
  have fl := h1.lt
  have hm : MapAt w mb .u64 [] := ⟨#[], 0, h2, rfl⟩
  have hl := run_maplen (P := Tryz.prog) (ty := 3) Tryz.underlying241 hm
  clear hm h1 h2
  go_enter Tryz.func104, Tryz.ntmps104
  go_wp2_with fail
  go_ret
  exact ⟨rfl, rfl⟩
def confC (n p : Int) : Array Value := #[.int .i64 n, .int .i64 1, .int .i64 p, .int .i64 2, .int .i64 2, .int .i64 2, .int .i64 2, .int .i64 3, .int .i64 12]
theorem usual_any (n p : Int) (w : World) : Calls Tryz.prog 16 #[.int .i64 n, .int .i64 p] w (RetW (.agg (confC n p)) fun w' => Chg NoB w w') := by
  have hC := Lib.hid ((Chg.refl NoB w).alloc (.cells (confC n p) 28))
  go_enter Tryz.func16, Tryz.ntmps16
  go_wp2_with fail
  exact bodyPost_ret (v := .agg (confC n p)) (by simp [results, Tryz.results16, go_sem, confC]) rfl ⟨rfl, hC.out⟩
set_option maxHeartbeats 1000000 in
set_option maxRecDepth 100000 in
theorem nright_any (n p : Nat) (hn : 2 ≤ n) (hn2 : n ≤ 16) (hp : p ≤ 65536) (w : World) : Calls Tryz.prog 49 #[.agg (confC n p)] w (RetW (.bool true) fun w' => Chg NoB w w') := by
  have hB := Lib.hid (Blk.new w (confC n p) 28)
  have hC := Lib.hid ((Chg.refl NoB w).alloc (.cells (confC n p) 28))
  have HN := Lib.hid (And.intro hn (And.intro hn2 hp))
  have hbn : ∀ a b c : Int, a ≤ b → b ≤ c → ∀ w, Calls Tryz.prog 81 #[.int .i64 b, .int .i64 a, .int .i64 c] w (RetW (.bool true) fun w' => w' = w) := fun a b c h1 h2 w => by
    have := between_any b a c w
    rwa [decide_eq_true h1, decide_eq_true h2] at this
  have HB := Lib.hid hbn
  clear hn hn2 hp hbn
  go_enter Tryz.func49, Tryz.ntmps49
  unfold confC at hB hC ⊢
  go_upto_region 1 with fail
  generalize w.alloc (.cells #[.int .i64 n, .int .i64 1, .int .i64 p, .int .i64 2, .int .i64 2, .int .i64 2, .int .i64 2, .int .i64 3, .int .i64 12] 28) = w1 at *
  obtain ⟨cb, hcb⟩ : ∃ b, w.heap.size = b := ⟨_, rfl⟩
  rw [hcb] at hB
  simp only [hcb]
  clear hcb
  have f := hB.out.cell
  have fl := hB.out.lt
  go_wp2_with fail
  refine (sendNew_any _).mono ?_
  rintro e w2 ⟨rfl, -, C2⟩
  have HK2 := Lib.hid (C2.blk0 hB.out)
  have HC2 := Lib.hid (hC.out.step C2)
  clear f fl C2
  have f := HK2.out.cell
  have fl := HK2.out.lt
  go_wp2_with fail
  refine (recvNew_any _).mono ?_
  rintro e w3 ⟨v, rfl, rb, rfl, -, -, C3⟩
  have HK3 := Lib.hid (C3.blk0 HK2.out)
  have HC3 := Lib.hid (HC2.out.step C3)
  clear f fl C3
  have f := HK3.out.cell
  have fl := HK3.out.lt
  go_wp2_with fail
  refine (HB.out 1 2 64 (by omega) (by omega) _).mono ?_
  rintro e w4 ⟨rfl, h4⟩
  subst h4
  go_wp2_with fail
  refine (HB.out 0 1 16 (by omega) (by omega) _).mono ?_
  rintro e w4 ⟨rfl, h4⟩
  subst h4
  go_wp2_with fail
  refine (HB.out 0 p 65536 (by omega) (by have := HN.out.2.2; omega) _).mono ?_
  rintro e w4 ⟨rfl, h4⟩
  subst h4
  go_wp2_with fail
  refine (HB.out 2 n 16 (by have := HN.out.1; omega) (by have := HN.out.2.1; omega) _).mono ?_
  rintro e w4 ⟨rfl, h4⟩
  subst h4
  go_wp2_with fail
  refine (HB.out 1 2 8 (by omega) (by omega) _).mono ?_
  rintro e w4 ⟨rfl, h4⟩
  subst h4
  go_wp2_with fail
  go_ret
  exact ⟨rfl, HC3.out⟩
end Go.Proofs.YtleilfkcjollaaaGreat
set_option linter.unusedVariables false
set_option linter.unusedSimpArgs false
namespace Go.Proofs.YtleilfkcjollaaaGreat
open Go.RowKit Go.RR
/-- A map whose entries bear their stamps: no key stands twice. -/
def Stm (w : World) (b : Nat) : Prop := ∃ es clock, w.heap[b]? = some (.map es clock) ∧ MapKept.Stamped es clock
theorem Stm.chg {w w' : World} {S : Nat → Prop} {b : Nat} (h : Stm w b) (c : Chg S w w') (hn : ¬ S b) : Stm w' b := by
  obtain ⟨es, clock, h1, h2⟩ := h
  exact ⟨es, clock, (c.block b (Array.getElem?_eq_some_iff.1 h1).1 hn).trans h1, h2⟩
theorem run_mapput_new {P : Program} {w : World} {b : Nat} {k : IntKind} {m : List (Int × Value)} {t kt e : TypeId} (ht : P.underlying t = some (.map kt e)) (hk : P.underlying kt = some (.int k)) (h : MapAt w b k m) (hs' : Stm w b) (a : Int) (hm : mlook m a = none) (v : Value) :
    ∃ w', (Instr.mapUpdate t (.map (some b)) (.int k a) v).run P w = .ok () w' ∧ MapAt w' b k (m ++ [(a, v)]) ∧ Stm w' b ∧ Chg (· = b) w w' := by
  obtain ⟨es, c, h1, h2⟩ := h
  obtain ⟨es', c', h1', h3⟩ := hs'
  rw [h1] at h1'
  cases h1'
  have hg : (getObj b).run P w = .ok (.map es c) w := by simp [getObj, Sem.run, h1]
  have hs : ∀ o, (setObj b o).run P w = .ok () { w with heap := w.heap.setIfInBounds b o } := fun o => by simp [setObj, Sem.run, h1]
  have hf := run_findKey (P := P) (w := w) hk a es.toList h2
  have hc := run_checkKey (P := P) (w := w) hk false a
  have hmi : midx m a = none := by
    cases e : midx m a with
    | none => rfl
    | some j =>
      obtain ⟨x, -, hx, -⟩ := midx_some e
      rw [hm] at hx
      cases hx
  rw [hmi] at hf
  simp only [Option.bind_none] at hf
  refine ⟨setMap w b (es.push { key := .int k a, val := v, born := c }) (c + 1), by simp [Instr.mapUpdate, run_underlying ht, hg, hc, hf, hs, setMap], ⟨_, _, setMap_at h1, by simp [h2]⟩, ⟨_, _, setMap_at h1, MapKept.stamped_push h3 fun x hx e => ?_⟩, setMap_chg _ _ _ _⟩
  have hx2 : (x.key, x.val) ∈ es.toList.map (fun e => (e.key, e.val)) := List.mem_map.2 ⟨x, hx, rfl⟩
  rw [h2, e] at hx2
  obtain ⟨q, hq, hq2⟩ := List.mem_map.1 hx2
  have hq1 : q.1 = a := by
    have := congrArg Prod.fst hq2
    simp only [Value.int.injEq, true_and] at this
    exact this
  unfold mlook at hm
  rw [Option.map_eq_none_iff, List.find?_eq_none] at hm
  exact hm q hq (by simp [hq1])
theorem wpList_mapput_new {P : Program} {w : World} {b : Nat} {k : IntKind} {m : List (Int × Value)} {ops : Array Oper} {rest : List Oper} {o : Oper} {a : Act} {Q : Exit → Act → World → Prop} (hgd : o.guard = none) (s x y : Operand) (t kt e : TypeId)
    (ho : o.op = .mapUpdate t s x y) (ht : P.underlying t = some (.map kt e)) (hk : P.underlying kt = some (.int k)) (hs : a.eval s = .map (some b)) (h : MapAt w b k m) (hst : Stm w b) (key : Int) (hm : mlook m key = none) (hx : a.eval x = .int k key) (v : Value) (hy : a.eval y = v)
    (hc : ∀ w', MapAt w' b k (m ++ [(key, v)]) → Stm w' b → Chg (· = b) w w' → wpList P ops Q rest (a.put o.dst undef) w') : wpList P ops Q (o :: rest) a w := by
  refine wpList_plain hgd fun K hK => ?_
  obtain ⟨w', hr, h2, h3, h4⟩ := run_mapput_new (P := P) ht hk h hst key hm v
  have hc2 := hK _ _ (hc w' h2 h3 h4)
  unfold Oper.wp execOp
  simp [ho, hs, hx, hy, hr, Oper.upon]
  exact hc2
/-- A home at rest: the pages that something was asked about. -/
structure Hm where
  hb : Nat
  mb : Nat
  sp : Nat
  me : Int
  nodes : Int
  code : Int
  priv : Int
  shared : Int
def Hm.cells (h : Hm) : Array Value := #[.int .i64 h.me, .int .i64 h.nodes, .pointer (some ⟨h.sp, 0, none⟩), .int .i64 h.code, .int .i64 h.priv, .int .i64 h.shared, .map (some h.mb)]
structure HmAt (w : World) (h : Hm) (ps : List (Int × Nat × Nat)) : Prop where
  blk : Blk w h.hb h.cells 153
  map : MapAt w h.mb .i64 (ps.map fun p => (p.1, .pointer (some ⟨p.2.1, 0, none⟩)))
  page : ∀ p ∈ ps, PgAt w p.2.1 p.2.2 h.me (p.1 % h.nodes) p.1
  st : Stm w h.mb
  kn : ∀ p ∈ ps, 0 ≤ p.1 ∧ p.1 < h.shared
theorem mapAt_ne {w : World} {b c : Nat} {k : IntKind} {m : List (Int × Value)} {cs : Array Value} {T : TypeId} (h : MapAt w b k m) (hb : Blk w c cs T) : c ≠ b := by
  rintro rfl
  obtain ⟨es, cl, h1, -⟩ := h
  have hb : w.heap[c]? = some (.cells cs T (0, 0)) := hb
  rw [h1] at hb
  cases hb
theorem PgAt.chg {w w' : World} {S : Nat → Prop} {pb rb : Nat} {me owner number : Int} (h : PgAt w pb rb me owner number) (c : Chg S w w') (h1 : ¬ S pb) (h2 : ¬ S rb) : PgAt w' pb rb me owner number := ⟨c.blk h.blk h1, c.blk h.ring h2⟩
theorem HmAt.chg0 {w w' : World} {h : Hm} {ps : List (Int × Nat × Nat)} (a : HmAt w h ps) (c : Chg NoB w w') : HmAt w' h ps := ⟨c.blk0 a.blk, a.map.chg c id, fun p hp => (a.page p hp).chg0 c, a.st.chg c id, a.kn⟩
theorem hlook (ps : List (Int × Nat × Nat)) (n : Int) : mlook (ps.map fun p => (p.1, Value.pointer (some ⟨p.2.1, 0, none⟩))) n = (ps.find? fun p => p.1 == n).map fun p => Value.pointer (some ⟨p.2.1, 0, none⟩) := by
  induction ps with
  | nil => rfl
  | cons p ps ih =>
    unfold mlook at ih ⊢
    rw [List.map_cons, List.find?_cons, List.find?_cons]
    cases p.1 == n with
    | true => rfl
    | false => exact ih
/-- Pages that are new lie in new memory. -/
def PsExt (w : World) (ps ps' : List (Int × Nat × Nat)) : Prop := ∀ p ∈ ps', p ∈ ps ∨ (w.heap.size ≤ p.2.1 ∧ w.heap.size ≤ p.2.2)
theorem PPinfo3 : (Tryz.prog.info? 127).map (fun i => (i.zero, i.size, i.bytes)) = some (some (.pointer none), 1, 8) := by kernel_rfl
set_option maxHeartbeats 1000000 in
set_option maxRecDepth 100000 in
theorem hpage_any {w : World} {h : Hm} {ps : List (Int × Nat × Nat)} (a : HmAt w h ps) (n : Int) (h0 : 0 ≤ n) (h1 : n < h.shared) (hn : 2 ≤ h.nodes) (hn2 : h.nodes ≤ 16) (hs : h.shared ≤ 65536) :
    Calls Tryz.prog 58 #[.pointer (some ⟨h.hb, 0, none⟩), .int .i64 n] w (RetV fun v w' => ∃ pb rb ps', v = .pointer (some ⟨pb, 0, none⟩) ∧ HmAt w' h ps' ∧ PgAt w' pb rb h.me (n % h.nodes) n ∧ Chg (· = h.mb) w w' ∧ PsExt w ps ps') := by
  have e0 := a.blk.cell' (i := 0) (v := .int .i64 h.me) rfl
  have e1 := a.blk.cell' (i := 1) (v := .int .i64 h.nodes) rfl
  have e5 := a.blk.cell' (i := 5) (v := .int .i64 h.shared) rfl
  have e6 := a.blk.cell' (i := 6) (v := .map (some h.mb)) rfl
  have el := a.blk.lt
  have t0 : decide (n < 0) = false := decide_eq_false (by omega)
  have t1 : decide (h.shared ≤ n) = false := decide_eq_false (by omega)
  obtain ⟨i0, hi0, hz0, hz1, hz2⟩ := info_parts PPinfo3
  have hl := run_look1 (P := Tryz.prog) Tryz.underlying151 Tryz.underlying3 hi0 hz0 a.map n
  rw [hlook] at hl
  have HA := Lib.hid a
  have HN := Lib.hid (And.intro h0 (And.intro h1 (And.intro hn (And.intro hn2 hs))))
  cases hf : ps.find? fun p => p.1 == n with
  | some p =>
    rw [hf] at hl
    have hp := a.page p (List.mem_of_find?_eq_some hf)
    have hpn : p.1 = n := by simpa using List.find?_some hf
    rw [hpn] at hp
    have HP := Lib.hid hp
    obtain ⟨p1, pb, rb⟩ := p
    simp only [Option.map_some, Option.getD_some] at hl
    clear a h0 h1 hn hn2 hs hi0 hz0 hz1 hz2 hf hp hpn
    go_enter Tryz.func58, Tryz.ntmps58
    go_wp2_with fail
    go_ret
    first | exact ⟨_, rfl, pb, rfl, ⟨rb, HP.out⟩, ps, HA.out, Chg.refl _ _, fun p hp => .inl hp⟩ | exact ⟨_, rfl, pb, rfl, rb, ps, HA.out, HP.out, Chg.refl _ _, fun p hp => .inl hp⟩ | exact ⟨_, rfl, pb, rfl, ps, HA.out, ⟨rb, HP.out⟩, Chg.refl _ _, fun p hp => .inl hp⟩ | (refine ⟨_, rfl, pb, rfl, ?_⟩; trace_state; fail)
  | none =>
    rw [hf] at hl
    simp only [Option.map_none, Option.getD_none] at hl
    have HF := Lib.hid hf
    clear a h0 h1 hn hn2 hs hi0 hz0 hz1 hz2 hf
    go_enter Tryz.func58, Tryz.ntmps58
    go_upto_region 5 with fail
    have q0 : h.nodes ≠ 0 := by have := HN.out.2.2.1; omega
    have q0' : (h.nodes == 0) = false := by simpa using q0
    have q1 : IntKind.i64.wrap (n.tmod h.nodes) = n % h.nodes := by
      have := HN.out
      rw [Int.tmod_eq_emod_of_nonneg this.1]
      have h2 := Int.emod_lt_of_pos n (b := h.nodes) (by omega)
      have h3 := Int.emod_nonneg n q0
      exact IntWalk.i64_in _ (by omega)
    have g0 : ∀ w', Chg NoB w w' → w'.cell? ⟨h.hb, 0, none⟩ = some (.int .i64 h.me) := fun w' c => (c.blk0 HA.out.blk).cell' (i := 0) rfl
    have g1 : ∀ w', Chg NoB w w' → w'.cell? ⟨h.hb, 1, none⟩ = some (.int .i64 h.nodes) := fun w' c => (c.blk0 HA.out.blk).cell' (i := 1) rfl
    have gl : ∀ w', Chg NoB w w' → h.hb < w'.heap.size := fun w' c => (c.blk0 HA.out.blk).lt
    clear e0 e1 e5 e6 el hl
    refine wp_region_mix 12 [(true, 0), (true, 1), (true, 2), (true, 3), (true, 4), (true, 5), (true, 6), (true, 7), (true, 8), (true, 9), (true, 10), (false, 11)] (fun w' => Chg NoB w w') (by kernel_rfl) (by kernel_rfl) (fun _ _ _ _ _ h => h) ((Chg.refl NoB w).drew) ?_
    simp only [pickMix_nil, pickMix_cons, Option.getD_some, List.getElem?_toArray, List.getElem?_cons_zero, List.getElem?_cons_succ, List.cons_append, List.nil_append, List.drop_succ_cons, List.drop_zero]
    iterate 11
     refine wpMix_take rfl ?_
     apply Exists.intro
     refine ⟨fun wS hS => ?_, ?_⟩
     · try dsimp only at hS
       have cS := hS
       go_simp
       try rfl
     simp only [Act.put, List.setIfInBounds_toArray, List.set_cons_zero, List.set_cons_succ]
    refine wpMix_force rfl (fun K hK => ?_)
    go_simp
    refine (pageNew_any _ _ _ _).mono ?_
    rintro e w2 ⟨v, rfl, pb, rb, rfl, l1, l2, hP, hC⟩
    have C2 : Chg NoB w w2 := (Chg.refl NoB w).drew.step hC
    have HP := Lib.hid hP
    have HL := Lib.hid (And.intro l1 l2)
    refine hK _ _ C2 ?_
    clear hK K hP hC l1 l2
    refine wpMix_nil ?_
    have hA2 := HA.out.chg0 C2
    have e6 := hA2.blk.cell' (i := 6) (v := .map (some h.mb)) rfl
    have el := hA2.blk.lt
    have hM := hA2.map
    have HA2 := Lib.hid hA2
    have HC2 := Lib.hid C2
    clear g0 g1 gl q0 q0' q1 C2 hA2
    have HMN : Hid (mlook (ps.map fun p => (p.1, Value.pointer (some ⟨p.2.1, 0, none⟩))) n = none) := Lib.hid (by rw [hlook, HF.out]; rfl)
    go_wp2_with (refine wpList_mapput_new rfl _ _ _ 151 3 127 rfl Tryz.underlying151 Tryz.underlying3 rfl hM HA2.out.st n HMN.out rfl (.pointer (some ⟨pb, 0, none⟩)) rfl ?_)
    intro w3 hM3 hSt3 C3
    have HM3 := Lib.hid hM3
    have HSt3 := Lib.hid hSt3
    have HC3 := Lib.hid C3
    clear hM3 C3 e6 el hM hSt3
    go_wp2_with fail
    go_ret
    have hP := HP.out
    rw [Int.tmod_eq_emod_of_nonneg HN.out.1] at hP
    have hM3 := HM3.out
    have ne1 : ∀ {c : Nat} {cs : Array Value} {T : TypeId}, Blk w2 c cs T → ¬ c = h.mb := fun hb => mapAt_ne HA2.out.map hb
    refine ⟨_, rfl, pb, rb, ps ++ [(n, pb, rb)], rfl, ⟨HC3.out.blk HA2.out.blk (ne1 HA2.out.blk), ?_, ?_, HSt3.out, fun p hp => (List.mem_append.1 hp).elim (HA2.out.kn p) fun hp => by rw [List.mem_singleton.1 hp]; exact ⟨HN.out.1, HN.out.2.1⟩⟩, hP.chg HC3.out (ne1 hP.blk) (ne1 hP.ring), (HC2.out.mono (S' := fun k => k = h.mb) fun _ _ e => e.elim).trans HC3.out fun k hk e => e, fun p hp => (List.mem_append.1 hp).elim .inl fun hp => .inr (by rw [List.mem_singleton.1 hp]; exact HL.out)⟩
    · rw [List.map_append]
      exact hM3
    · intro p hp
      rcases List.mem_append.1 hp with hp | hp
      · have := HA2.out.page p hp
        exact this.chg HC3.out (ne1 this.blk) (ne1 this.ring)
      · rw [List.mem_singleton.1 hp]
        exact hP.chg HC3.out (ne1 hP.blk) (ne1 hP.ring)
theorem blk_ne {w : World} {b c : Nat} {cs cs' : Array Value} {T T' : TypeId} (h1 : Blk w b cs T) (h2 : Blk w c cs' T') (hs : cs.size ≠ cs'.size) : ¬ b = c := by
  rintro rfl
  have h1 : w.heap[b]? = some (.cells cs T (0, 0)) := h1
  have h2 : w.heap[b]? = some (.cells cs' T' (0, 0)) := h2
  rw [h1] at h2
  cases h2
  exact hs rfl
theorem HmAt.chg {w w' : World} {S : Nat → Prop} {h : Hm} {ps : List (Int × Nat × Nat)} (a : HmAt w h ps) (c : Chg S w w') (h1 : ¬ S h.hb) (h2 : ¬ S h.mb) (h3 : ∀ p ∈ ps, ¬ S p.2.1 ∧ ¬ S p.2.2) : HmAt w' h ps :=
  ⟨c.blk a.blk h1, a.map.chg c h2, fun p hp => (a.page p hp).chg c (h3 p hp).1 (h3 p hp).2, a.st.chg c h2, a.kn⟩
set_option maxHeartbeats 2000000 in
set_option maxRecDepth 100000 in
/-- What a home says of a page, at rest. -/
theorem hState_any {w : World} {h : Hm} {ps : List (Int × Nat × Nat)} (a : HmAt w h ps) (n : Int) (h0 : 0 ≤ n) (h1 : n < h.shared) (hn : 2 ≤ h.nodes) (hn2 : h.nodes ≤ 16) (hs : h.shared ≤ 65536) :
    Calls Tryz.prog 24 #[.pointer (some ⟨h.hb, 0, none⟩), .int .i64 n] w (RetW (.agg (stC h.me (n % h.nodes))) fun w' => (∃ ps', HmAt w' h ps' ∧ PsExt w ps ps') ∧ Chg (· = h.mb) w w') := by
  obtain ⟨b, hb⟩ : ∃ b, ((n % h.nodes) == h.me) = b := ⟨_, rfl⟩
  unfold stC
  rw [hb]
  have hC := (Chg.refl NoB w).alloc (.cells #[.int .i64 0, .bool false, .int .i64 0, .int .u16 0, .int .i64 0, .int .u16 0, .bool false, .int .i64 0, .int .i64 0] 53)
  have hB := Lib.hid (Blk.new w #[.int .i64 0, .bool false, .int .i64 0, .int .u16 0, .int .i64 0, .int .u16 0, .bool false, .int .i64 0, .int .i64 0] 53)
  have HPg := Lib.hid (hpage_any (a.chg0 hC) n h0 h1 hn hn2 hs)
  have HBE := Lib.hid hb
  have HLm := Lib.hid a.map.lt
  have HC := Lib.hid hC
  clear a h0 h1 hn hn2 hs hb hC
  go_enter Tryz.func24, Tryz.ntmps24
  go_wp2_with fail
  generalize w.alloc (.cells #[.int .i64 0, .bool false, .int .i64 0, .int .u16 0, .int .i64 0, .int .u16 0, .bool false, .int .i64 0, .int .i64 0] 53) = w1 at *
  refine HPg.out.mono ?_
  rintro e w3 ⟨v, rfl, pb, rb, ps', rfl, hA, hP, hC3, hE⟩
  have HE := Lib.hid hE
  have HP := Lib.hid hP
  have HA := Lib.hid hA
  have HC3 := Lib.hid hC3
  clear hA hP hC3 HPg hE
  go_wp2_with fail
  have hS := pageState_any HP.out
  unfold stC at hS
  rw [HBE.out] at hS
  refine hS.mono ?_
  rintro e w4 ⟨rfl, C4⟩
  obtain ⟨b4, hb4⟩ : ∃ b, w.heap.size = b := ⟨_, rfl⟩
  rw [hb4] at hB
  have HB4 := Lib.hid (C4.blk0 (HC3.out.blk hB.out (fun e => by have := HLm.out; omega)))
  have HC4 : Hid (Chg (fun k => k = h.mb) w w4) := Lib.hid (((HC.out.mono (S' := fun k => k = h.mb) fun _ _ e => e.elim).trans HC3.out fun k hk e => e).trans (C4.mono (S' := fun k => k = h.mb) fun _ _ e => e.elim) fun k hk e => e)
  have HA4 := Lib.hid (HA.out.chg0 C4)
  have HW := Lib.hid hb4
  have f := HB4.out.cell
  have fz := HB4.out.frozen
  have fl := HB4.out.lt
  simp only [hb4]
  clear C4 hb4 hS
  go_wp2_with fail
  have hb4 : w.heap.size ≤ b4 := by rw [HW.out]; exact Nat.le_refl _
  have hB9 : Blk _ b4 #[.int .i64 0, .bool b, .int .i64 (n % h.nodes), .int .u16 0, .int .i64 0, .int .u16 0, .bool false, .int .i64 (-1), .int .i64 0] 53 := (((((((((HB4.out.set 0 (.int .i64 0)).set 1 (.bool b)).set 2 (.int .i64 (n % h.nodes))).set 3 (.int .u16 0)).set 4 (.int .i64 0)).set 5 (.int .u16 0)).set 6 (.bool false)).set 7 (.int .i64 (-1))).set 8 (.int .i64 0))
  have hC9 := (((((((((HC4.out.setCell (a := ⟨b4, 0, none⟩) (.inr hb4) (.int .i64 0)).setCell (a := ⟨b4, 1, none⟩) (.inr hb4) (.bool b)).setCell (a := ⟨b4, 2, none⟩) (.inr hb4) (.int .i64 (n % h.nodes))).setCell (a := ⟨b4, 3, none⟩) (.inr hb4) (.int .u16 0)).setCell (a := ⟨b4, 4, none⟩) (.inr hb4) (.int .i64 0)).setCell (a := ⟨b4, 5, none⟩) (.inr hb4) (.int .u16 0)).setCell (a := ⟨b4, 6, none⟩) (.inr hb4) (.bool false)).setCell (a := ⟨b4, 7, none⟩) (.inr hb4) (.int .i64 (-1))).setCell (a := ⟨b4, 8, none⟩) (.inr hb4) (.int .i64 0))
  have hA9 : ∃ ps', HmAt (((((((((w4.setCell ⟨b4, 0, none⟩ (.int .i64 0)).setCell ⟨b4, 1, none⟩ (.bool b)).setCell ⟨b4, 2, none⟩ (.int .i64 (n % h.nodes))).setCell ⟨b4, 3, none⟩ (.int .u16 0)).setCell ⟨b4, 4, none⟩ (.int .i64 0)).setCell ⟨b4, 5, none⟩ (.int .u16 0)).setCell ⟨b4, 6, none⟩ (.bool false)).setCell ⟨b4, 7, none⟩ (.int .i64 (-1))).setCell ⟨b4, 8, none⟩ (.int .i64 0)) h ps' ∧ PsExt w ps ps' := by
    have ne : ¬ h.mb = b4 := by have := HLm.out; omega
    refine ⟨ps', HA4.out.chg ((((((((((Chg.refl (fun k => k = b4) w4).setCell (a := ⟨b4, 0, none⟩) (.inl rfl) (.int .i64 0)).setCell (a := ⟨b4, 1, none⟩) (.inl rfl) (.bool b)).setCell (a := ⟨b4, 2, none⟩) (.inl rfl) (.int .i64 (n % h.nodes))).setCell (a := ⟨b4, 3, none⟩) (.inl rfl) (.int .u16 0)).setCell (a := ⟨b4, 4, none⟩) (.inl rfl) (.int .i64 0)).setCell (a := ⟨b4, 5, none⟩) (.inl rfl) (.int .u16 0)).setCell (a := ⟨b4, 6, none⟩) (.inl rfl) (.bool false)).setCell (a := ⟨b4, 7, none⟩) (.inl rfl) (.int .i64 (-1))).setCell (a := ⟨b4, 8, none⟩) (.inl rfl) (.int .i64 0)) (blk_ne HA4.out.blk HB4.out (by show ¬ 7 = 9; omega)) ne fun p hp => ?_, fun p hp => (HE.out p hp).imp id fun h => by have := HC.out.size; exact ⟨Nat.le_trans this h.1, Nat.le_trans this h.2⟩⟩
    have hp := HA4.out.page p hp
    exact ⟨blk_ne hp.blk HB4.out (by show ¬ 14 = 9; omega), blk_ne hp.ring HB4.out (by show ¬ 4 = 9; omega)⟩
  generalize (((((((((w4.setCell ⟨b4, 0, none⟩ (.int .i64 0)).setCell ⟨b4, 1, none⟩ (.bool b)).setCell ⟨b4, 2, none⟩ (.int .i64 (n % h.nodes))).setCell ⟨b4, 3, none⟩ (.int .u16 0)).setCell ⟨b4, 4, none⟩ (.int .i64 0)).setCell ⟨b4, 5, none⟩ (.int .u16 0)).setCell ⟨b4, 6, none⟩ (.bool false)).setCell ⟨b4, 7, none⟩ (.int .i64 (-1))).setCell ⟨b4, 8, none⟩ (.int .i64 0)) = w9 at *
  have q := hB9.cell
  have ql := hB9.lt
  exact bodyPost_ret (v := .agg #[.int .i64 0, .bool b, .int .i64 (n % h.nodes), .int .u16 0, .int .i64 0, .int .u16 0, .bool false, .int .i64 (-1), .int .i64 0]) (by simp [results, Tryz.results24, go_sem, q, ql]) rfl ⟨rfl, hA9, hC9⟩
end Go.Proofs.YtleilfkcjollaaaGreat
