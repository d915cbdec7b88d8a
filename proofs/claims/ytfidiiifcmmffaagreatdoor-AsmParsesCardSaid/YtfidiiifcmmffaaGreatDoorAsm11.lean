/- Places, read by the program. No condition. -/
import Derived.Test.YtfidiiifcmmffaaGreatDoorAsm10
set_option linter.unusedVariables false
set_option linter.unusedSimpArgs false
namespace Go.Proofs.YtfidiiifcmmffaaGreatDoor
open Go.RowKit Go.RR

/-- A text cut at a byte. -/
theorem cut_at (c : UInt8) (l : Bs) : (Go.Lib.cut l [c]).1 = (l.takeWhile fun d => decide (d ≠ c)) ∧ (Go.Lib.cut l [c]).2.1 = (l.dropWhile fun d => decide (d ≠ c)).drop 1 ∧ (Go.Lib.cut l [c]).2.2 = decide (c ∈ l) := by
  unfold Go.Lib.cut
  by_cases h : c ∈ l
  · obtain ⟨a, b, rfl, hn⟩ := first_at h
    obtain ⟨e1, e2⟩ := span_at (p := fun d => decide (d ≠ c)) (a := a) (b := b) (c := c) (fun x hx => by rw [ne_dec]; rintro rfl; exact hn hx) (by simp)
    rw [idx_at hn, if_pos (by omega), e1, e2]
    simp only [Int.toNat_natCast]
    refine ⟨List.take_left, ?_, (decide_eq_true h).symm⟩
    rw [show a ++ c :: b = (a ++ [c]) ++ b by simp, show a.length + ([c] : Bs).length = (a ++ [c]).length by simp, List.drop_left]
    rfl
  · obtain ⟨e1, e2⟩ := span_all (p := fun d => decide (d ≠ c)) (a := l) (fun x hx => by rw [ne_dec]; rintro rfl; exact h hx)
    rw [idx_no h, if_neg (by omega), e1, e2]
    exact ⟨rfl, rfl, (decide_eq_false h).symm⟩
theorem suf_at (c : UInt8) (l : Bs) : Go.Lib.hasSuffix l [c] = decide (l.getLast? = some c) ∧ Go.Lib.trimSuffix l [c] = if l.getLast? = some c then l.dropLast else l := by
  have h1 : Go.Lib.hasSuffix l [c] = decide (l.getLast? = some c) := by
    unfold Go.Lib.hasSuffix
    by_cases h : l.getLast? = some c
    · rw [decide_eq_true h]
      obtain ⟨t, rfl⟩ := List.getLast?_eq_some_iff.1 h
      exact List.isSuffixOf_iff_suffix.2 ⟨t, rfl⟩
    · rw [decide_eq_false h]
      cases hs : ([c] : Bs).isSuffixOf l with
      | false => rfl
      | true =>
        obtain ⟨t, ht⟩ := List.isSuffixOf_iff_suffix.1 hs
        exact absurd (by rw [← ht, List.getLast?_concat]) h
  refine ⟨h1, ?_⟩
  unfold Go.Lib.trimSuffix
  rw [h1]
  by_cases h : l.getLast? = some c
  · rw [if_pos h, decide_eq_true h, if_pos rfl, List.dropLast_eq_take]
    rfl
  · rw [if_neg h, decide_eq_false h]
    rfl
def plV (s : Bs) (v : Value) : Prop := ∃ n r, v = .tuple #[.int .i64 n, .int .i64 r, .bool (plP s).isSome] ∧ ∀ m q, plP s = some (m, q) → n = m ∧ r = q
set_option maxHeartbeats 4000000 in
set_option maxRecDepth 100000 in
theorem place_any (s : Bs) (w : World) (hl : s.length ≤ 100000) (L : Lb w) : Calls Tryz.prog 57 #[.string ⟨s.toArray⟩] w (RetV fun v w' => plV s v ∧ Chg NoB w w') := by
  obtain ⟨m, hm⟩ := L.mx
  have H0 := Lib.hid (Tryz.strings_Cut ⟨s.toArray⟩ ⟨#[40]⟩ m w (by show s.toArray.size < _; simp; omega) hm)
  have e0 : (ByteArray.mk #[40]).data.toList = [40] := rfl
  have e1 : (ByteArray.mk s.toArray).data.toList = s := rfl
  obtain ⟨c1, c2, c3⟩ := cut_at 40 s
  rw [e0, e1, c1, c2, c3] at H0
  have hP : plP s = if ((s.dropWhile fun c => decide (c ≠ 40)).drop 1).getLast? = some 41 then
    match numF (s.takeWhile fun c => decide (c ≠ 40)), regP (((s.dropWhile fun c => decide (c ≠ 40)).drop 1).dropLast) with
    | some n, some r => some (n, r)
    | _, _ => none
  else none := rfl
  have la : (s.takeWhile fun c => decide (c ≠ 40)).length ≤ s.length := (List.takeWhile_sublist _).length_le
  have lr : ((s.dropWhile fun c => decide (c ≠ 40)).drop 1).length ≤ s.length := by rw [List.length_drop]; have := (List.dropWhile_sublist (fun c : UInt8 => decide (c ≠ 40)) (l := s)).length_le; omega
  generalize (s.takeWhile fun c => decide (c ≠ 40)) = A at *
  generalize ((s.dropWhile fun c => decide (c ≠ 40)).drop 1) = R at *
  have H1 := Lib.hid fun w => Tryz.strings_CutSuffix ⟨R.toArray⟩ ⟨#[41]⟩ w (by show R.toArray.size ≤ _; simp; omega)
  have e2 : (ByteArray.mk #[41]).data.toList = [41] := rfl
  have e3 : (ByteArray.mk R.toArray).data.toList = R := rfl
  obtain ⟨s1, s2⟩ := suf_at 41 R
  simp only [e2, e3, s1, s2] at H1
  have HP := Lib.hid hP
  have HL := Lib.hid L
  obtain ⟨x, hx⟩ : ∃ x, (numF A).getD 0 = x := ⟨_, rfl⟩
  obtain ⟨y, hy⟩ : ∃ y, (numF A).isSome = y := ⟨_, rfl⟩
  have H2 : Hid (∀ w' : World, Lb w' → Calls Tryz.prog 58 #[.string ⟨A.toArray⟩] w' (RetW (.tuple #[.int .i64 x, .bool y]) fun w'' => Chg NoB w' w'')) := Lib.hid fun w' L' => by
    have := number_any A w' (by omega) L'
    unfold numV at this
    rw [hx, hy] at this
    exact this
  have HX := Lib.hid hx
  have HY := Lib.hid hy
  have hll : (if R.getLast? = some 41 then R.dropLast else R).length ≤ 100000 := by
    split
    · rw [List.length_dropLast]; omega
    · omega
  have HLL := Lib.hid hll
  obtain ⟨Q, hQ⟩ : ∃ Q, (if R.getLast? = some 41 then R.dropLast else R) = Q := ⟨_, rfl⟩
  rw [hQ] at H1 HLL
  have HQ := Lib.hid hQ
  obtain ⟨z, hz⟩ : ∃ z, decide (R.getLast? = some 41) = z := ⟨_, rfl⟩
  rw [hz] at H1
  have HZ := Lib.hid hz
  clear L e0 e1 e2 e3 c1 c2 c3 s1 s2 hm hP hx hy hQ hz hll
  go_enter Tryz.func57, Tryz.ntmps57
  go_wp2_with fail
  refine H0.out.mono ?_
  rintro e w1 ⟨rfl, nd, hw1⟩
  subst hw1
  go_wp2_with fail
  refine (H1.out _).mono ?_
  rintro e w2 ⟨rfl, hw2⟩
  subst hw2
  go_wp2_with fail
  refine (H2.out _ (HL.out.chg0 ((Chg.refl NoB w).drewN nd))).mono ?_
  rintro e w3 ⟨rfl, C3⟩
  have HC3 := Lib.hid (((Chg.refl NoB w).drewN nd).step C3)
  clear C3
  go_wp2_with fail
  refine (register_any Q _ HLL.out (HL.out.chg0 HC3.out)).mono ?_
  rintro e w4 ⟨v4, rfl, ⟨r, rfl, hr⟩, C4⟩
  have HC4 := Lib.hid (HC3.out.step C4)
  have HRR := Lib.hid hr
  obtain ⟨u, hu⟩ : ∃ u, (regP Q).isSome = u := ⟨_, rfl⟩
  rw [hu]
  have HU := Lib.hid hu
  clear C4 hr hu
  have key : (plP s).isSome = ((z && y) && u) ∧ ∀ m q, plP s = some (m, q) → x = m ∧ r = q := by
    rw [HP.out]
    by_cases h : R.getLast? = some 41
    · rw [if_pos h]
      have hq := HQ.out
      rw [if_pos h] at hq
      rw [hq, ← HZ.out, decide_eq_true h, ← HY.out, ← HU.out]
      cases ha : numF A with
      | none => exact ⟨by simp, fun m q h => by cases h⟩
      | some n =>
        cases hb : regP Q with
        | none => exact ⟨by simp, fun m q h => by cases h⟩
        | some p =>
          refine ⟨by simp, fun m q h => ?_⟩
          cases h
          exact ⟨by rw [← HX.out, ha]; rfl, HRR.out _ hb⟩
    · rw [if_neg h, ← HZ.out, decide_eq_false h]
      exact ⟨by simp, fun m q h => by cases h⟩
  have HKEY := Lib.hid key
  clear key
  cases z <;> cases y <;> cases u
  all_goals
    go_wp2_with fail
    go_ret3
    exact ⟨_, rfl, ⟨x, r, by rw [HKEY.out.1]; rfl, HKEY.out.2⟩, HC4.out⟩
end Go.Proofs.YtfidiiifcmmffaaGreatDoor
