/- The law's first words: what must be answered of three instructions. No condition. -/
import Derived.Test.YtdkplhdinklflaaFlow12
import Derived.Test.YtdkplhdinklflaaFlow15
import Derived.Test.YtdkplhdinklflaaFlow18
set_option linter.unusedVariables false
namespace Go.Proofs.Ytdkplhdinklflaa
open Go.RowKit Go.RR

def I1 : In := ⟨1, 1, 0, 0, 3⟩
def I2 : In := ⟨2, 1, 1, 0, -1⟩
def I3 : In := ⟨16, 0, 1, 0, -1⟩
def L0 : List In := [I1, I2, I3]
def L1 : List In := [I1, I2]
def L2 : List In := [I2, I3]
theorem L0_right : ∀ i ∈ L0, rightB i = true := by decide
theorem L1_right : ∀ i ∈ L1, rightB i = true := by decide
theorem L2_right : ∀ i ∈ L2, rightB i = true := by decide
theorem L0_blocks : blocksF L0 = [(0, 1, [1]), (1, 3, [1, 2])] := by kernel_rfl
theorem L0_loops : loopF (nxN L0) L0.length = true := by kernel_rfl
theorem L1_loops : loopF (nxN L1) L1.length = false := by kernel_rfl
theorem L1_long : longF L1 = 2 := by kernel_rfl
theorem L0_raw : rawF (nxN L0) L0.length (wrN L0) (rdN L0) = 0 := by kernel_rfl
theorem L2_raw : rawF (nxN L2) L2.length (wrN L2) (rdN L2) = 2 := by kernel_rfl
theorem L0_reach : ((fromF (nxN L0) L0.length [0]).take L0.length).length = 3 := by kernel_rfl

set_option maxHeartbeats 4000000 in
set_option maxRecDepth 100000 in
theorem first31_any (w : World) : Calls Try.prog 33 #[] w (RetW (.bool true) fun w' => Chg NoB w w') := by
  have A1 := (Chg.refl NoB w).alloc (.cells (icells L0).toArray 32)
  have B1 := Blk.new w (icells L0).toArray 32
  have S0 : Sl (w.alloc (.cells (icells L0).toArray 32)) (fun k => k = w.heap.size) 5 (.slice (some ⟨w.heap.size, 0, none⟩) 3 3) L0.length (icells L0) := Sl.fresh w (icells L0) 32 3 rfl
  have S1 : Sl (w.alloc (.cells (icells L0).toArray 32)) (fun k => k = w.heap.size) 5 (.slice (some ⟨w.heap.size, 0, none⟩) 2 3) L1.length (icells L1) := by
    refine Sl.of (n := 2) rfl (by decide) rfl B1.lt fun j u hu => B1.cell' ?_
    have e : icells L0 = icells L1 ++ icells [I3] := rfl
    rw [Nat.zero_add, List.getElem?_toArray, e, List.getElem?_append_left (List.getElem?_eq_some_iff.1 hu).1]
    exact hu
  have S2 : Sl (w.alloc (.cells (icells L0).toArray 32)) (fun k => k = w.heap.size) 5 (.slice (some ⟨w.heap.size, 5, none⟩) 2 2) L2.length (icells L2) := by
    refine Sl.of (n := 2) rfl (by decide) rfl B1.lt fun j u hu => B1.cell' ?_
    have e : icells L0 = icells [I1] ++ icells L2 := rfl
    have hl : (icells [I1]).length = 5 := rfl
    rw [List.getElem?_toArray, e, List.getElem?_append_right (by rw [hl]; omega), hl, Nat.add_sub_cancel_left]
    exact hu
  have HA1 := Lib.hid A1
  have HS0 := Lib.hid S0
  have HS1 := Lib.hid S1
  have HS2 := Lib.hid S2
  clear A1 B1 S0 S1 S2
  go_enter Try.func33, Try.ntmps33
  go_wp2_with fail
  refine (fblocks_any _ _ L0 _ HS0.out (by decide) L0_right).mono ?_
  rintro e w1 ⟨y, rfl, hB, C1⟩
  rw [L0_blocks] at hB
  obtain ⟨pb, cb, rfl⟩ := hB.form
  have HBk := Lib.hid hB
  have HC1 := Lib.hid C1
  clear hB C1
  go_wp2_with fail
  refine (flongest_any _ _ L1 _ (HS1.out.chg0 HC1.out) (by decide) L1_right).mono ?_
  rintro e w2 ⟨rfl, C2⟩
  rw [L1_long, L1_loops]
  have HC2 := Lib.hid (HC1.out.step C2)
  obtain ⟨hcb, g, of, pv, cv, rfl, hg, a0, a1, a2, aI⟩ := (HBk.out.chg C2 fun _ _ _ => id).spot (i := 0) (b := (0, 1, [1])) rfl
  obtain ⟨-, g', of', pv', cv', he, -, b0, b1, b2, bI⟩ := (HBk.out.chg C2 fun _ _ _ => id).spot (i := 1) (b := (1, 3, [1, 2])) rfl
  cases he
  have HI1 := Lib.hid bI
  clear C2 a0 a2 aI b0 b1 bI HBk
  simp only [Nat.zero_mul, Nat.one_mul, Nat.add_zero, Nat.add_assoc, Nat.reduceAdd, List.length_cons, List.length_nil, Nat.zero_add] at a1 b2 hcb
  go_wp2_with fail
  refine (ints_any _ _ [1, 2] [1, 2] _ (HI1.out.chg0 ((Chg.refl NoB w2).alloc _)) (IAt.fresh w2 [1, 2]) (by decide) (by decide)).mono ?_
  rintro e w3 ⟨rfl, C3⟩
  have HC3 := Lib.hid (HC2.out.trans (((Chg.refl NoB w2).alloc _).step C3) (fun _ _ h => h))
  clear C3
  go_wp2_with fail
  refine (floops_any _ _ L0 _ (HS0.out.chg0 HC3.out) (by decide) L0_right).mono ?_
  rintro e w4 ⟨rfl, C4⟩
  rw [L0_loops]
  have HC4 := Lib.hid (HC3.out.step C4)
  clear C4
  go_wp2_with fail
  refine (fraw_any _ _ L0 _ (HS0.out.chg0 HC4.out) (by decide) L0_right).mono ?_
  rintro e w5 ⟨rfl, C5⟩
  rw [L0_raw]
  have HC5 := Lib.hid (HC4.out.step C5)
  clear C5
  go_wp2_with fail
  refine (fraw_any _ _ L2 _ (HS2.out.chg0 HC5.out) (by decide) L2_right).mono ?_
  rintro e w6 ⟨rfl, C6⟩
  rw [L2_raw]
  have HC6 := Lib.hid (HC5.out.step C6)
  clear C6
  go_wp2_with fail
  refine (reach_any _ _ L0 _ (HS0.out.chg0 HC6.out) (by decide) L0_right).mono ?_
  rintro e w7 ⟨y, rfl, hR, C7⟩
  obtain ⟨pr, cr, rfl⟩ := hR.form
  rw [L0_reach]
  have HC7 := Lib.hid (HC6.out.step C7)
  clear C7 hR
  go_wp2_with fail
  go_ret
  exact ⟨rfl, HA1.out.step HC7.out⟩
end Go.Proofs.Ytdkplhdinklflaa
