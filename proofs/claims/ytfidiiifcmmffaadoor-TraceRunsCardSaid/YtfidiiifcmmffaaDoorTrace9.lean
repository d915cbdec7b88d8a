/- How often: of words, by the program. No condition. -/
import Derived.Test.YtfidiiifcmmffaaDoorTrace7
set_option linter.unusedVariables false
set_option linter.unusedSimpArgs false
namespace Go.Proofs.YtfidiiifcmmffaaDoor
open Go.RowKit Go.RR

/-- What times answers of m+1 words at g, off, of which the last is last. -/
def timesV (g off m c : Nat) (last : Bs) : Value :=
  if 1 ≤ m ∧ last.head? = some 120 then
    match numF (last.drop 1) with
    | none => .tuple #[.int .i64 0, .slice (some ⟨g, off, none⟩) (m + 1) c]
    | some n => if n < 2 ∨ 100000 < n then .tuple #[.int .i64 0, .slice (some ⟨g, off, none⟩) (m + 1) c] else .tuple #[.int .i64 n, .slice (some ⟨g, off, none⟩) m c]
  else .tuple #[.int .i64 1, .slice (some ⟨g, off, none⟩) (m + 1) c]
theorem pre_iff (s : Bs) : Go.Lib.hasPrefix s [120] = decide (s.head? = some 120) := by
  cases s with
  | nil => rfl
  | cons a s =>
    show ((120 : UInt8) == a && true) = _
    by_cases h : a = 120
    · rw [h]; rfl
    · have h2 : ((120 : UInt8) == a) = false := by rw [beq_eq_false_iff_ne]; exact fun e => h e.symm
      rw [h2]
      simp [h]
set_option maxHeartbeats 4000000 in
set_option maxRecDepth 100000 in
theorem times_any (g off m c : Nat) (last : Bs) (w : World) (hc : m + 1 ≤ c) (hm : m ≤ 100000) (hg : g < w.heap.size) (hcell : w.cell? ⟨g, off + m, none⟩ = some (bsv last)) (hl : last.length ≤ 100000) (L : Lb w) :
    Calls Tryd.prog 16 #[.slice (some ⟨g, off, none⟩) (m + 1) c] w (RetW (timesV g off m c last) fun w' => Chg NoB w w') := by
  have H0 := Lib.hid (Tryd.strings_CutPrefix ⟨last.toArray⟩ ⟨#[120]⟩ w)
  simp only [bl_data, show (ByteArray.mk #[120]).data.toList = [120] from rfl, pre_iff] at H0
  unfold bsv at hcell
  have m0 : (0 : Int) ≤ m := by omega
  by_cases h1 : 1 ≤ m ∧ last.head? = some 120
  · have e : Go.Lib.trimPrefix last [120] = last.drop 1 := by unfold Go.Lib.trimPrefix; rw [pre_iff, decide_eq_true h1.2]; rfl
    rw [e, decide_eq_true h1.2] at H0
    have H1 := Lib.hid (number_any (last.drop 1) w (by rw [List.length_drop]; omega) L)
    rw [List.drop_one] at H1 H0
    have t0 : decide ((m : Int) + 1 < 2) = false := by simp; omega
    have HT : Hid (timesV g off m c last = match numF (last.drop 1) with
      | none => .tuple #[.int .i64 0, .slice (some ⟨g, off, none⟩) (m + 1) c]
      | some n => if n < 2 ∨ 100000 < n then .tuple #[.int .i64 0, .slice (some ⟨g, off, none⟩) (m + 1) c] else .tuple #[.int .i64 n, .slice (some ⟨g, off, none⟩) m c]) := Lib.hid (by unfold timesV; rw [if_pos h1])
    clear L e h1
    cases hq : numF (last.drop 1) with
    | none =>
      have e : numV (last.drop 1) = .tuple #[.int .i64 0, .bool false] := by unfold numV; rw [hq]; rfl
      rw [hq] at HT
      simp only at HT
      rw [List.drop_one] at e
      rw [e] at H1
      clear hq e
      go_enter Tryd.func16, Tryd.ntmps16
      go_wp2_with fail
      with_reducible refine H0.out.mono ?_
      rintro e w1 ⟨rfl, rfl⟩
      go_wp2_with fail
      with_reducible refine H1.out.mono ?_
      rintro e w2 ⟨rfl, C2⟩
      have HC2 := Lib.hid C2
      clear C2
      go_wp2_with fail
      go_ret2
      exact ⟨congrArg Ending.returned HT.out.symm, HC2.out⟩
    | some n =>
      have e : numV (last.drop 1) = .tuple #[.int .i64 n, .bool true] := by unfold numV; rw [hq]; rfl
      rw [hq] at HT
      simp only at HT
      rw [List.drop_one] at e
      rw [e] at H1
      have hi := (numF_iff.1 hq).1
      unfold i64 at hi
      clear hq e
      by_cases h2 : n < 2 ∨ 100000 < n
      · rw [if_pos h2] at HT
        cases u0 : decide (n < 2)
        · have u1 : decide (100000 < n) = true := by simp at u0 ⊢; omega
          clear h2
          go_enter Tryd.func16, Tryd.ntmps16
          go_wp2_with fail
          with_reducible refine H0.out.mono ?_
          rintro e w1 ⟨rfl, rfl⟩
          go_wp2_with fail
          with_reducible refine H1.out.mono ?_
          rintro e w2 ⟨rfl, C2⟩
          have HC2 := Lib.hid C2
          clear C2
          go_wp2_with fail
          skip
          go_ret2
          exact ⟨congrArg Ending.returned HT.out.symm, HC2.out⟩
        · clear h2
          go_enter Tryd.func16, Tryd.ntmps16
          go_wp2_with fail
          with_reducible refine H0.out.mono ?_
          rintro e w1 ⟨rfl, rfl⟩
          go_wp2_with fail
          with_reducible refine H1.out.mono ?_
          rintro e w2 ⟨rfl, C2⟩
          have HC2 := Lib.hid C2
          clear C2
          go_wp2_with fail
          skip
          go_ret2
          exact ⟨congrArg Ending.returned HT.out.symm, HC2.out⟩
      · rw [if_neg h2] at HT
        have u0 : decide (n < 2) = false := by simp; omega
        have u1 : decide (100000 < n) = false := by simp; omega
        clear h2
        go_enter Tryd.func16, Tryd.ntmps16
        go_wp2_with fail
        with_reducible refine H0.out.mono ?_
        rintro e w1 ⟨rfl, rfl⟩
        go_wp2_with fail
        with_reducible refine H1.out.mono ?_
        rintro e w2 ⟨rfl, C2⟩
        have HC2 := Lib.hid C2
        clear C2
        go_wp2_with fail
        go_quiet (fail); go_wp2_with fail
        go_ret2
        exact ⟨congrArg Ending.returned HT.out.symm, HC2.out.drewN _⟩
  · have HT : Hid (timesV g off m c last = .tuple #[.int .i64 1, .slice (some ⟨g, off, none⟩) (m + 1) c]) := Lib.hid (by unfold timesV; rw [if_neg h1])
    by_cases h2 : last.head? = some 120
    · rw [decide_eq_true h2] at H0
      have hm0 : m = 0 := by
        rcases Nat.eq_zero_or_pos m with h | h
        · exact h
        · exact absurd ⟨h, h2⟩ h1
      subst hm0
      rw [Nat.add_zero] at hcell
      clear h1 h2 L
      go_enter Tryd.func16, Tryd.ntmps16
      go_wp2_with fail
      with_reducible refine H0.out.mono ?_
      rintro e w1 ⟨rfl, rfl⟩
      go_wp2_with fail
      go_ret2
      exact ⟨congrArg Ending.returned HT.out.symm, Chg.refl _ _⟩
    · rw [decide_eq_false h2] at H0
      clear h1 h2 L
      go_enter Tryd.func16, Tryd.ntmps16
      go_wp2_with fail
      with_reducible refine H0.out.mono ?_
      rintro e w1 ⟨rfl, rfl⟩
      go_wp2_with fail
      go_ret2
      exact ⟨congrArg Ending.returned HT.out.symm, Chg.refl _ _⟩
end Go.Proofs.YtfidiiifcmmffaaDoor
