/- What is answered ahead of everything else. No condition. -/
import Derived.Test.YtfidiiifcmmffaaGreatDoorAsm22
set_option linter.unusedVariables false
set_option linter.unusedSimpArgs false
namespace Go.Proofs.YtfidiiifcmmffaaGreatDoor
open Go.RowKit Go.RR
def tx1 : Bs := [108, 111, 111, 112, 58, 32, 35, 32, 97, 103, 97, 105, 110, 10, 32, 97, 100, 100, 105, 32, 114, 49, 44, 32, 114, 49, 44, 32, 45, 49, 10, 98, 110, 101, 32, 114, 49, 44, 32, 114, 48, 44, 32, 108, 111, 111, 112, 10, 108, 119, 32, 114, 51, 44, 32, 56, 40, 114, 49, 53, 41]
def tx2 : Bs := [104, 97, 108, 116, 10, 106, 97, 108, 32, 114, 49, 44, 32, 110, 111, 110, 101]
def tx3 : Bs := [115, 100, 32, 114, 50, 44, 32, 45, 56, 40, 114, 51, 41]
theorem tx1_parse : parseF tx1 = ([⟨2, 1, 1, 0, -1⟩, ⟨16, 0, 1, 0, -1⟩, ⟨21, 3, 15, 0, 8⟩], 0, true) := by kernel_rfl
theorem tx2_parse : parseF tx2 = ([], 2, false) := by kernel_rfl
theorem tx3_line : lineP tx3 = some ⟨29, 0, 3, 2, -8⟩ := by kernel_rfl
theorem tx3_print : printI ⟨29, 0, 3, 2, -8⟩ = tx3 := by kernel_rfl
set_option maxHeartbeats 4000000 in
set_option maxRecDepth 100000 in
theorem first21_any (w : World) (L : Lb w) : Calls Tryz.prog 8 #[] w (RetW (.bool true) fun w' => Chg NoB w w') := by
  have HL := Lib.hid L
  have H1 := Lib.hid (parse_any tx1 w (by decide) L)
  have H2 := Lib.hid fun w (L : Lb w) => parse_any tx2 w (by decide) L
  have H3 := Lib.hid fun w (L : Lb w) => line_any tx3 w (by decide) L
  clear L
  go_enter Tryz.func8, Tryz.ntmps8
  go_wp2_with fail
  refine H1.out.mono ?_
  rintro e w1 ⟨v1, rfl, C1, lv, hv1, S, hS⟩
  rw [tx1_parse] at hv1 hS
  simp only [if_true] at hv1
  subst hv1
  obtain ⟨p, c, rfl, hI⟩ := InsAt.of hS (by decide)
  have HC1 := Lib.hid C1
  have HI := Lib.hid hI
  clear C1 hS hI
  go_wp2_with fail
  refine (H2.out _ (HL.out.chg0 HC1.out)).mono ?_
  rintro e w2 ⟨v2, rfl, C2, lv2, hv2, _⟩
  rw [tx2_parse] at hv2
  simp only [if_false, Bool.false_eq_true] at hv2
  subst hv2
  have HC2 := Lib.hid (HC1.out.step C2)
  have HI2 := Lib.hid (HI.out.chg0 C2)
  clear C2
  go_wp2_with fail
  refine (H3.out _ (HL.out.chg0 HC2.out)).mono ?_
  rintro e w3 ⟨rfl, C3⟩
  rw [lineV_some tx3_line]
  have HC3 := Lib.hid (HC2.out.step C3)
  have HI3 := Lib.hid (HI2.out.chg0 C3)
  clear C3
  obtain ⟨g, of, rfl, hg, x0, x1, x2, x3, x4⟩ := HI3.out.at (n := 1) rfl
  obtain ⟨g', of', e', _, y0, y1, y2, y3, y4⟩ := HI3.out.at (n := 2) rfl
  cases e'
  have hcap := HI3.out.cap
  have HC4 := Lib.hid (HC3.out.alloc (.cells (ic ⟨29, 0, 3, 2, -8⟩) 24))
  have HP := Lib.hid (print_any ⟨29, 0, 3, 2, -8⟩ (w3.alloc (.cells (ic ⟨29, 0, 3, 2, -8⟩) 24)) ⟨i64_small (by decide), i64_small (by decide), i64_small (by decide), i64_small (by decide), i64_small (by decide)⟩ (HL.out.chg0 HC4.out))
  rw [tx3_print] at HP
  have hlen : ([⟨2, 1, 1, 0, -1⟩, ⟨16, 0, 1, 0, -1⟩, ⟨21, 3, 15, 0, 8⟩] : List In).length = 3 := rfl
  simp only at x4 y0 y1 y2 y3 y4
  have k1 := ins_eq ⟨21, 3, 15, 0, 8⟩ ⟨21, 3, 15, 0, 8⟩
  rw [decide_eq_true rfl] at k1
  have k2 := eq_guard
  simp only at k1
  clear x0 x1 x2 x3
  go_wp2_with fail
  refine HP.out.mono ?_
  rintro e w4 ⟨rfl, C4⟩
  have HC5 := Lib.hid (HC4.out.step C4)
  have bl := bl_list tx3
  clear C4
  go_wp2_with fail
  go_ret
  exact ⟨rfl, HC5.out⟩
end Go.Proofs.YtfidiiifcmmffaaGreatDoor
