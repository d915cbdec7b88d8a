/- The law's first words. No condition. -/
import Derived.Test.YtfidiiifcmmffaaDoorTrace18
import Derived.Test.YtfidiiifcmmffaaDoorTrace19
import Derived.Test.YtfidiiifcmmffaaDoorTrace20
import Derived.Test.YtfidiiifcmmffaaDoorTraceHex
set_option linter.unusedVariables false
set_option linter.unusedSimpArgs false
namespace Go.Proofs.YtfidiiifcmmffaaDoor
open Go.RowKit Go.RR

theorem L0_i64 : ∀ a ∈ L0, i64A a := by
  intro a ha
  have : ∀ a ∈ L0, (-9223372036854775808 ≤ a.1 ∧ a.1 ≤ 9223372036854775807) ∧ (-9223372036854775808 ≤ a.2.1 ∧ a.2.1 ≤ 9223372036854775807) ∧ (-9223372036854775808 ≤ a.2.2 ∧ a.2.2 ≤ 9223372036854775807) := by decide
  exact this a ha
theorem first_T1 (w : World) (L : Lb w) : Calls Tryd.prog 13 #[.string ⟨#[114, 117, 110, 32, 48, 32, 48, 32, 120, 50, 32, 35, 32, 116, 119, 105, 99, 101, 10, 10, 32, 116, 105, 99, 107, 10, 116, 117, 114, 110, 32, 50, 32, 45, 51]⟩] w (RetV fun v w' => Chg NoB w w' ∧ ∃ q, v = .tuple #[q, .int .i64 0, .int .i64 0] ∧ AAt w' q L0) := by
  refine (parse_any T1 w (by decide) L).mono ?_
  rintro e w' ⟨v, rfl, hC, l, n, ok, q, hp, rfl, hA, -⟩
  rw [T1_parse] at hp
  cases hp
  exact ⟨_, rfl, hC, q, rfl, hA⟩
theorem first_T2 (w : World) (L : Lb w) : Calls Tryd.prog 13 #[.string ⟨#[116, 105, 99, 107, 10, 116, 105, 99, 107, 32, 49]⟩] w (RetV fun v w' => Chg NoB w w' ∧ ∃ q, v = .tuple #[q, .int .i64 2, .int .i64 210]) := by
  refine (parse_any T2 w (by decide) L).mono ?_
  rintro e w' ⟨v, rfl, hC, l, n, ok, q, hp, rfl, hA, -⟩
  rw [T2_parse] at hp
  cases hp
  exact ⟨_, rfl, hC, q, rfl⟩
theorem first_L0 (v : Value) (w : World) (hI : AAt w v L0) (L : Lb w) : Calls Tryd.prog 11 #[v] w (RetW (.string ⟨#[114, 117, 110, 32, 48, 32, 48, 32, 120, 50, 10, 116, 105, 99, 107, 10, 116, 117, 114, 110, 32, 50, 32, 45, 51, 10]⟩) fun w' => Chg NoB w w') := by
  have h := tprint_any v L0 w hI (by decide) L0_i64 L
  rw [L0_print] at h
  exact h
theorem first_q : (ByteArray.toList ⟨#[114, 117, 110, 32, 48, 32, 48, 32, 120, 50, 10, 116, 105, 99, 107, 10, 116, 117, 114, 110, 32, 50, 32, 45, 51, 10]⟩ == [114, 117, 110, 32, 48, 32, 48, 32, 120, 50, 10, 116, 105, 99, 107, 10, 116, 117, 114, 110, 32, 50, 32, 45, 51, 10]) = true := by decide +kernel
theorem first_h : (ByteArray.toList ⟨#[52, 48, 97]⟩ == [52, 48, 97]) = true := by decide +kernel
set_option maxHeartbeats 4000000 in
set_option maxRecDepth 100000 in
theorem first34_any (w : World) (L : Lb w) : Calls Tryd.prog 6 #[] w (RetW (.bool true) fun w' => Chg NoB w w') := by
  have A1 := (Chg.refl NoB w).alloc (.cells (alist L0).toArray 23)
  have S0 : AAt (w.alloc (.cells (alist L0).toArray 23)) (.slice (some ⟨w.heap.size, 0, none⟩) 4 4) L0 := ⟨_, Sl.fresh w (alist L0) 23 4 rfl⟩
  have HA1 := Lib.hid A1
  have HS0 := Lib.hid S0
  have HL := Lib.hid L
  have q := first_q
  have qh := first_h
  clear A1 S0 L
  go_enter Tryd.func6, Tryd.ntmps6
  go_wp2_with fail
  refine (first_T1 _ (HL.out.chg0 HA1.out)).mono ?_
  rintro e w1 ⟨v1, rfl, C1, q1, rfl, hX⟩
  obtain ⟨px, cx, rfl⟩ := hX.form
  have HX := Lib.hid hX
  have HC1 := Lib.hid (HA1.out.step C1)
  have HS1 := Lib.hid (HS0.out.chg0 C1)
  clear hX C1
  go_wp2_with fail
  refine (first_T2 _ (HL.out.chg0 HC1.out)).mono ?_
  rintro e w2 ⟨v2, rfl, C2, q2, rfl⟩
  have HC2 := Lib.hid (HC1.out.step C2)
  have HS2 := Lib.hid (HS1.out.chg0 C2)
  have HX2 := Lib.hid (HX.out.chg0 C2)
  clear C2
  go_wp2_with fail
  refine (first_L0 _ _ HS2.out (HL.out.chg0 HC2.out)).mono ?_
  rintro e w3 ⟨rfl, C3⟩
  have HC3 := Lib.hid (HC2.out.step C3)
  have HS3 := Lib.hid (HS2.out.chg0 C3)
  have HX3 := Lib.hid (HX2.out.chg0 C3)
  clear C3
  go_wp2_with fail
  refine (asame_any _ _ L0 L0 _ HX3.out HS3.out (by decide) (by decide)).mono ?_
  rintro e w4 ⟨rfl, C4⟩
  rw [decide_eq_true (rfl : L0 = L0)]
  have HC4 := Lib.hid (HC3.out.step C4)
  clear C4
  go_wp2_with fail
  refine (hex_any _ (HL.out.chg0 HC4.out)).mono ?_
  rintro e w5 ⟨rfl, C5⟩
  have HC5 := Lib.hid (HC4.out.step C5)
  clear C5
  go_wp2_with fail
  go_ret
  exact ⟨rfl, HC5.out⟩
end Go.Proofs.YtfidiiifcmmffaaDoor
