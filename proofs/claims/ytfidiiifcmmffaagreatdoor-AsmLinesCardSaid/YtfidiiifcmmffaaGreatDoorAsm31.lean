/- AsmLines returns true, whatever it is given. No condition. -/
import Derived.Test.YtfidiiifcmmffaaGreatDoorAsm30
import Derived.Test.YtfidiiifcmmffaaGreatDoorAsm23
set_option linter.unusedVariables false
set_option linter.unusedSimpArgs false
namespace Go.Proofs.YtfidiiifcmmffaaGreatDoor
open Go.RowKit Go.RR
theorem lineV_form (s : Bs) : ∃ (i : In) (b : Bool), lineV s = .tuple #[.agg #[.int .i64 i.op, .int .i64 i.rd, .int .i64 i.rs, .int .i64 i.rt, .int .i64 i.im], .bool b] := by
  cases h : lineP s with
  | none => exact ⟨⟨0, 0, 0, 0, 0⟩, false, lineV_none h⟩
  | some i => exact ⟨i, true, lineV_some h⟩
set_option maxHeartbeats 8000000 in
set_option maxRecDepth 100000 in
theorem asmLines_any (a : ByteArray) (w : World) (hs : a.size ≤ maxLen) (L : Lb w) : Calls Tryz.prog 4 #[.string a] w (RetW (.bool true) fun w' => Chg NoB w w') := by
  obtain ⟨s, rfl⟩ : ∃ s : Bs, a = ⟨s.toArray⟩ := ⟨a.data.toList, by apply ByteArray.ext; simp⟩
  have hs1 : s.length ≤ maxLen := by have : (⟨s.toArray⟩ : ByteArray).size = s.length := by show s.toArray.size = _; simp
                                     omega
  have hs0 : (s.length : Int) ≤ 9223372036854775807 := by unfold maxLen at hs1; omega
  have HL := Lib.hid L
  clear hs hs1
  by_cases hbig : 100 < s.length
  · have t0 : decide ((100 : Int) < s.length) = true := decide_eq_true (by omega)
    clear L
    go_enter Tryz.func4, Tryz.ntmps4
    go_wp2_with fail
    refine (first21_any _ HL.out).mono ?_
    rintro e w1 ⟨rfl, C1⟩
    have HC1 := Lib.hid C1
    clear C1
    go_wp2_with fail
    go_ret
    exact ⟨rfl, HC1.out⟩
  · have t0 : decide ((100 : Int) < s.length) = false := decide_eq_false (by omega)
    have t1 : ¬ ((100 : Int) < s.length) := by omega
    have HLEN : Hid (s.length ≤ 99999) := Lib.hid (by omega)
    obtain ⟨i, b, hv⟩ := lineV_form s
    have HV := Lib.hid hv
    clear L hv
    go_enter Tryz.func4, Tryz.ntmps4
    go_wp2_with fail
    refine (first21_any _ HL.out).mono ?_
    rintro e w1 ⟨rfl, C1⟩
    have HC1 := Lib.hid C1
    clear C1
    go_wp2_with fail
    refine (line_any _ _ HLEN.out (HL.out.chg0 HC1.out)).mono ?_
    rintro e w2 ⟨rfl, C2⟩
    have HC2 := Lib.hid ((HC1.out.step C2).alloc (.cells (ic i) 24))
    have HB2 := Lib.hid (Blk.new w2 (ic i) 24)
    clear C2
    rw [HV.out]
    go_wp2_with fail
    refine (rline_walk _ _ HLEN.out).mono ?_
    rintro e w3 ⟨rfl, C3⟩
    have HC3 := Lib.hid (HC2.out.step C3)
    have HB3 := Lib.hid (C3.blk0 HB2.out)
    clear C3
    rw [HV.out]
    have z0 := HB3.out.cell' (i := 0) (v := .int .i64 i.op) rfl
    have z1 := HB3.out.cell' (i := 1) (v := .int .i64 i.rd) rfl
    have z2 := HB3.out.cell' (i := 2) (v := .int .i64 i.rs) rfl
    have z3 := HB3.out.cell' (i := 3) (v := .int .i64 i.rt) rfl
    have z4 := HB3.out.cell' (i := 4) (v := .int .i64 i.im) rfl
    have hbl := HB3.out.lt
    have k1 := ins_eq i i
    rw [decide_eq_true rfl] at k1
    have k2 := eq_guard
    go_wp2_with fail
    go_ret
    exact ⟨ret_bool (by simp), HC3.out.alloc _⟩
end Go.Proofs.YtfidiiifcmmffaaGreatDoor
