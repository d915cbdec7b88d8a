/- Registers and places, read by the program. No condition. -/
import Derived.Test.YtfidiiifcmmffaaGreatDoorAsm9
set_option linter.unusedVariables false
set_option linter.unusedSimpArgs false
namespace Go.Proofs.YtfidiiifcmmffaaGreatDoor
open Go.RowKit Go.RR

/-- What register answers. -/
def regV (s : Bs) (v : Value) : Prop := ∃ n, v = .tuple #[.int .i64 n, .bool (regP s).isSome] ∧ ∀ m, regP s = some m → n = m
theorem pre_r (s : Bs) : Go.Lib.hasPrefix s [114] = decide (s.head? = some 114) := by
  cases s with
  | nil => rfl
  | cons a s =>
    show ((114 : UInt8) == a && true) = _
    by_cases h : a = 114
    · rw [h]; rfl
    · have h2 : ((114 : UInt8) == a) = false := by rw [beq_eq_false_iff_ne]; exact fun e => h e.symm
      rw [h2]
      simp [h]
theorem regP_no {s : Bs} (h : s.head? ≠ some 114) : regP s = none := by
  unfold regP
  split
  · exact absurd rfl h
  · rfl
theorem regP_yes (s : Bs) : regP (114 :: s) = numF s := rfl
set_option maxHeartbeats 4000000 in
set_option maxRecDepth 100000 in
theorem register_any (s : Bs) (w : World) (hl : s.length ≤ 100000) (L : Lb w) : Calls Tryz.prog 56 #[.string ⟨s.toArray⟩] w (RetV fun v w' => regV s v ∧ Chg NoB w w') := by
  have H0 := Lib.hid (Tryz.strings_CutPrefix ⟨s.toArray⟩ ⟨#[114]⟩ w)
  have e0 : (ByteArray.mk #[114]).data.toList = [114] := rfl
  have e1 : (ByteArray.mk s.toArray).data.toList = s := rfl
  rw [e0, e1, pre_r] at H0
  cases s with
  | nil =>
    have e : Go.Lib.trimPrefix ([] : Bs) [114] = [] := rfl
    rw [e] at H0
    simp only [List.head?_nil, reduceCtorEq, decide_false] at H0
    have H1 := Lib.hid (number_any [] w (by simp) L)
    have hn : numV [] = .tuple #[.int .i64 0, .bool false] := by kernel_rfl
    rw [hn] at H1
    clear L e0 e1 e hn
    go_enter Tryz.func56, Tryz.ntmps56
    go_wp2_with fail
    refine H0.out.mono ?_
    rintro e w1 ⟨rfl, hw1⟩
    subst hw1
    go_wp2_with fail
    refine H1.out.mono ?_
    rintro e w2 ⟨rfl, C2⟩
    have HC := Lib.hid C2
    clear C2
    go_wp2_with fail
    go_ret2
    exact ⟨_, rfl, ⟨0, rfl, fun m h => by cases h⟩, HC.out⟩
  | cons c r =>
    by_cases hc : c = 114
    · subst hc
      have e : Go.Lib.trimPrefix (114 :: r) [114] = r := rfl
      rw [e] at H0
      simp only [List.head?_cons, decide_true] at H0
      simp only [List.length_cons] at hl
      have H1 := Lib.hid (number_any r w (by omega) L)
      have HR : Hid (regP (114 :: r) = numF r) := Lib.hid rfl
      unfold numV at H1
      obtain ⟨o, ho⟩ : ∃ o, numF r = o := ⟨_, rfl⟩
      rw [ho] at H1 HR
      clear L e0 e1 e ho
      cases o with
      | none =>
        simp only [Option.getD_none, Option.isSome_none] at H1
        go_enter Tryz.func56, Tryz.ntmps56
        go_wp2_with fail
        refine H0.out.mono ?_
        rintro e w1 ⟨rfl, hw1⟩
        subst hw1
        go_wp2_with fail
        refine H1.out.mono ?_
        rintro e w2 ⟨rfl, C2⟩
        have HC := Lib.hid C2
        clear C2
        go_wp2_with fail
        go_ret2
        exact ⟨_, rfl, ⟨0, by rw [HR.out]; rfl, fun m h => by rw [HR.out] at h; cases h⟩, HC.out⟩
      | some n =>
        simp only [Option.getD_some, Option.isSome_some] at H1
        go_enter Tryz.func56, Tryz.ntmps56
        go_wp2_with fail
        refine H0.out.mono ?_
        rintro e w1 ⟨rfl, hw1⟩
        subst hw1
        go_wp2_with fail
        refine H1.out.mono ?_
        rintro e w2 ⟨rfl, C2⟩
        have HC := Lib.hid C2
        clear C2
        go_wp2_with fail
        go_ret2
        exact ⟨_, rfl, ⟨n, by rw [HR.out]; rfl, fun m h => by rw [HR.out] at h; exact Option.some.inj h⟩, HC.out⟩
    · have hh : (c :: r).head? ≠ some 114 := by simpa using hc
      have hp : Go.Lib.hasPrefix (c :: r) [114] = false := by rw [pre_r]; simpa using hc
      have e : Go.Lib.trimPrefix (c :: r) [114] = c :: r := by unfold Go.Lib.trimPrefix; rw [hp]; rfl
      rw [e, ← pre_r, hp] at H0
      have H1 := Lib.hid (number_any (c :: r) w hl L)
      have HR := Lib.hid (regP_no hh)
      unfold numV at H1
      obtain ⟨x, hx⟩ : ∃ x, (numF (c :: r)).getD 0 = x := ⟨_, rfl⟩
      obtain ⟨y, hy⟩ : ∃ y, (numF (c :: r)).isSome = y := ⟨_, rfl⟩
      rw [hx, hy] at H1
      clear L e0 e1 e hx hy hp hh hc
      go_enter Tryz.func56, Tryz.ntmps56
      go_wp2_with fail
      refine H0.out.mono ?_
      rintro e w1 ⟨rfl, hw1⟩
      subst hw1
      go_wp2_with fail
      refine H1.out.mono ?_
      rintro e w2 ⟨rfl, C2⟩
      have HC := Lib.hid C2
      clear C2
      go_wp2_with fail
      go_ret2
      exact ⟨_, rfl, ⟨x, by rw [HR.out]; rfl, fun m h => by rw [HR.out] at h; cases h⟩, HC.out⟩
end Go.Proofs.YtfidiiifcmmffaaGreatDoor
