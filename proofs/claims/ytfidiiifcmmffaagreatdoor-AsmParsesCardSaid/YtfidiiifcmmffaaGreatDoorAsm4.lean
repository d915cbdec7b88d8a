/- A text's number, by the program. No condition. -/
import Derived.Test.YtfidiiifcmmffaaGreatDoorAsmLb
import Derived.Lib.AtoiErrMem
set_option linter.unusedVariables false
set_option linter.unusedSimpArgs false
namespace Go.Proofs.YtfidiiifcmmffaaGreatDoor
open Go.RowKit Go.RR

theorem bl_list (s : Bs) : (ByteArray.mk s.toArray).toList = s := by rw [ByteArray.toList_eq]
theorem bl_data (s : Bs) : (ByteArray.mk s.toArray).data.toList = s := rfl
theorem bl_size (s : Bs) : (ByteArray.mk s.toArray).size = s.length := rfl
theorem bl_eq (a b : Bs) : ((ByteArray.mk a.toArray).toList == (ByteArray.mk b.toArray).toList) = (a == b) := by rw [bl_list, bl_list]
theorem bl_ne (a b : Bs) : ((ByteArray.mk a.toArray).toList != (ByteArray.mk b.toArray).toList) = (a != b) := by rw [bl_list, bl_list]
/-- What number answers. -/
def numV (s : Bs) : Value := .tuple #[.int .i64 ((numF s).getD 0), .bool (numF s).isSome]
set_option maxHeartbeats 4000000 in
set_option maxRecDepth 100000 in
theorem number_any (s : Bs) (w : World) (hl : s.length ≤ 100000) (L : Lb w) : Calls Tryz.prog 58 #[.string ⟨s.toArray⟩] w (RetW (numV s) fun w' => Chg NoB w w') := by
  cases h : Go.Lib.atoiAll s with
  | range =>
    obtain ⟨tp, p, hv⟩ := L.rng
    have H := Lib.hid (Tryz.strconv_Atoi_range_var ⟨s.toArray⟩ (by show s.toArray.size ≤ _; simp; omega) (by simpa using h) tp p w hv)
    have hn : numV s = .tuple #[.int .i64 0, .bool false] := by unfold numV numF; rw [h]; rfl
    have HN := Lib.hid hn
    clear h L hv hn
    go_enter Tryz.func58, Tryz.ntmps58
    go_wp2_with fail
    refine H.out.mono ?_
    rintro e w1 ⟨N, rfl, -, -, hb⟩
    have HB := Lib.hid (chg_of_below hb)
    clear hb
    go_wp2_with fail
    go_ret2
    exact ⟨congrArg Ending.returned HN.out.symm, HB.out⟩
  | ok n =>
    have H := Lib.hid (Tryz.strconv_Atoi_ok ⟨s.toArray⟩ (by show s.toArray.size ≤ _; simp; omega) n (by simpa using h) w)
    have hi := atoi_in h
    have HI := Lib.hid fun (w' : World) (c : Chg NoB w w') => itoa_any n w' hi (L.chg0 c)
    have hn : numF s = if Go.Lib.itoa n = s then some n else none := by unfold numF; rw [h]
    by_cases he : Go.Lib.itoa n = s
    · rw [if_pos he] at hn
      have HN : Hid (numV s = .tuple #[.int .i64 n, .bool true]) := Lib.hid (by unfold numV; rw [hn]; rfl)
      have q0 : (Go.Lib.itoa n == s) = true := by rw [he]; simp
      clear h L hn hi he
      go_enter Tryz.func58, Tryz.ntmps58
      go_wp2_with fail
      refine H.out.mono ?_
      rintro e w1 ⟨rfl, hb⟩
      have HB : Hid (Chg NoB w w1) := Lib.hid (by
        rcases hb with rfl | ⟨t, rfl⟩
        · exact Chg.refl _ _
        · exact chg_of_below (Go.Lib.bytesWorld_below _ _ _))
      clear hb
      go_wp2_with fail
      refine (HI.out w1 HB.out).mono ?_
      rintro e w2 ⟨rfl, C2⟩
      have HC2 := Lib.hid C2
      clear C2
      go_wp2_with fail
      go_ret2
      exact ⟨congrArg Ending.returned HN.out.symm, HB.out.step HC2.out⟩
    · rw [if_neg he] at hn
      have HN : Hid (numV s = .tuple #[.int .i64 0, .bool false]) := Lib.hid (by unfold numV; rw [hn]; rfl)
      have q0 : (Go.Lib.itoa n == s) = false := by simpa using he
      clear h L hn hi he
      go_enter Tryz.func58, Tryz.ntmps58
      go_wp2_with fail
      refine H.out.mono ?_
      rintro e w1 ⟨rfl, hb⟩
      have HB : Hid (Chg NoB w w1) := Lib.hid (by
        rcases hb with rfl | ⟨t, rfl⟩
        · exact Chg.refl _ _
        · exact chg_of_below (Go.Lib.bytesWorld_below _ _ _))
      clear hb
      go_wp2_with fail
      refine (HI.out w1 HB.out).mono ?_
      rintro e w2 ⟨rfl, C2⟩
      have HC2 := Lib.hid C2
      clear C2
      go_wp2_with fail
      go_ret2
      exact ⟨congrArg Ending.returned HN.out.symm, HB.out.step HC2.out⟩
  | _ =>
    obtain ⟨tp, p, hv⟩ := L.syn
    have H : Hid (Calls Tryz.prog 72 #[.string ⟨s.toArray⟩] w fun e w' => ∃ N, e = .returned (.tuple #[.int .i64 0, .iface 163 (.pointer (some ⟨N, 0, none⟩))]) ∧ w.heap.size ≤ N ∧ w'.heap[N]? = some (.cells #[.string ⟨#[65, 116, 111, 105]⟩, .string ⟨s.toArray⟩, .iface tp p] 178 (0, 0)) ∧ Below w.heap.size w w') :=
      Lib.hid (Any.strconv_Atoi_syntax_var Tryz.laysC172 ⟨s.toArray⟩ (by show s.toArray.size ≤ _; simp; omega) (by simpa using h) tp p w hv)
    have hn : numV s = .tuple #[.int .i64 0, .bool false] := by unfold numV numF; rw [h]; rfl
    have HN := Lib.hid hn
    clear h L hv hn
    go_enter Tryz.func58, Tryz.ntmps58
    go_wp2_with fail
    refine H.out.mono ?_
    rintro e w1 ⟨N, rfl, -, -, hb⟩
    have HB := Lib.hid (chg_of_below hb)
    clear hb
    go_wp2_with fail
    go_ret2
    exact ⟨congrArg Ending.returned HN.out.symm, HB.out⟩
end Go.Proofs.YtfidiiifcmmffaaGreatDoor
