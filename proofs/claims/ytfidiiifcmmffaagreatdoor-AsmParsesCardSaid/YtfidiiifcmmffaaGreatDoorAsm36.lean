/- AsmParses returns true, whatever it is given. No condition. -/
import Derived.Test.YtfidiiifcmmffaaGreatDoorAsm34
import Derived.Test.YtfidiiifcmmffaaGreatDoorAsm23
set_option linter.unusedVariables false
set_option linter.unusedSimpArgs false
namespace Go.Proofs.YtfidiiifcmmffaaGreatDoor
open Go.RowKit Go.RR
theorem fin_len (x : List In ⊕ Nat) : (finF x).1.length ≤ 16384 := by
  cases x with
  | inr n => exact Nat.zero_le _
  | inl l =>
    unfold finF
    dsimp only
    split
    · exact Nat.zero_le _
    · dsimp only; omega
theorem parse_len (s : Bs) : (parseF s).1.length ≤ 16384 := by
  unfold parseF
  cases runF 0 ⟨[], [], []⟩ (wordsF 10 s) with
  | inr n => exact Nat.zero_le _
  | inl st => exact fin_len _
set_option maxHeartbeats 8000000 in
set_option maxRecDepth 100000 in
theorem asmParses_any (a : ByteArray) (w : World) (hs : a.size ≤ maxLen) (L : Lb w) : Calls Tryz.prog 5 #[.string a] w (RetW (.bool true) fun w' => Chg NoB w w') := by
  obtain ⟨s, rfl⟩ : ∃ s : Bs, a = ⟨s.toArray⟩ := ⟨a.data.toList, by apply ByteArray.ext; simp⟩
  have hs1 : s.length ≤ maxLen := by have : (⟨s.toArray⟩ : ByteArray).size = s.length := by show s.toArray.size = _; simp
                                     omega
  have hs0 : (s.length : Int) ≤ 9223372036854775807 := by unfold maxLen at hs1; omega
  have HL := Lib.hid L
  clear hs hs1
  by_cases hbig : 1500 < s.length
  · have t0 : decide ((1500 : Int) < s.length) = true := decide_eq_true (by omega)
    clear L
    go_enter Tryz.func5, Tryz.ntmps5
    go_wp2_with fail
    refine (first21_any _ HL.out).mono ?_
    rintro e w1 ⟨rfl, C1⟩
    have HC1 := Lib.hid C1
    clear C1
    go_wp2_with fail
    go_ret
    exact ⟨rfl, HC1.out⟩
  · have t0 : decide ((1500 : Int) < s.length) = false := decide_eq_false (by omega)
    have t1 : ¬ ((1500 : Int) < s.length) := by omega
    have HLEN : Hid (s.length ≤ 60000) := Lib.hid (by omega)
    have HLEN2 : Hid ((parseF s).1.length ≤ 100000) := Lib.hid (by have := parse_len s; omega)
    obtain ⟨⟨l, n, ok⟩, hpf⟩ : ∃ p, parseF s = p := ⟨_, rfl⟩
    have HPF := Lib.hid hpf
    clear L hpf
    cases ok
    ·
      go_enter Tryz.func5, Tryz.ntmps5
      go_wp2_with fail
      refine (first21_any _ HL.out).mono ?_
      rintro e w1 ⟨rfl, C1⟩
      have HC1 := Lib.hid C1
      clear C1
      go_wp2_with fail
      refine (parse_any _ _ HLEN.out (HL.out.chg0 HC1.out)).mono ?_
      rintro e w2 ⟨v2, rfl, C2, lv, hv2, S2, hI2⟩
      have HC2 := Lib.hid (HC1.out.step C2)
      rw [HPF.out] at hv2 hI2
      simp only [Bool.false_eq_true, if_false] at hv2
      subst hv2
      have HI2 := Lib.hid hI2
      obtain ⟨p2, c2, rfl⟩ := hI2.form
      clear C2 hI2
      go_wp2_with fail
      refine (rparse_any _ _ HLEN.out).mono ?_
      rintro e w3 ⟨v3, rfl, C3, mv, hv3, S3, hI3⟩
      have HC3 := Lib.hid (HC2.out.step C3)
      rw [HPF.out] at hv3 hI3
      subst hv3
      have HI3 := Lib.hid hI3
      obtain ⟨p3, c3, rfl⟩ := hI3.form
      have HI2' := Lib.hid (HI2.out.chg0 C3)
      have hl5 : l.length ≤ 100000 := by have := HLEN2.out; rw [HPF.out] at this; exact this
      have HSM := Lib.hid fun w' C => same_any S2 S3 _ _ l l w' (HI2'.out.chg0 C) (HI3.out.chg0 C) hl5 hl5
      rw [decide_eq_true rfl] at HSM
      clear C3 hI3
      go_wp2_with fail
      refine (HSM.out _ (Chg.refl _ _)).mono ?_
      rintro e w4 ⟨rfl, C4⟩
      have HC4 := Lib.hid (HC3.out.step C4)
      clear C4
      go_wp2_with fail
      go_ret
      exact ⟨rfl, HC4.out⟩
    ·
      go_enter Tryz.func5, Tryz.ntmps5
      go_wp2_with fail
      refine (first21_any _ HL.out).mono ?_
      rintro e w1 ⟨rfl, C1⟩
      have HC1 := Lib.hid C1
      clear C1
      go_wp2_with fail
      refine (parse_any _ _ HLEN.out (HL.out.chg0 HC1.out)).mono ?_
      rintro e w2 ⟨v2, rfl, C2, lv, hv2, S2, hI2⟩
      have HC2 := Lib.hid (HC1.out.step C2)
      rw [HPF.out] at hv2 hI2
      simp only [if_true] at hv2
      subst hv2
      have HI2 := Lib.hid hI2
      obtain ⟨p2, c2, rfl⟩ := hI2.form
      clear C2 hI2
      go_wp2_with fail
      refine (rparse_any _ _ HLEN.out).mono ?_
      rintro e w3 ⟨v3, rfl, C3, mv, hv3, S3, hI3⟩
      have HC3 := Lib.hid (HC2.out.step C3)
      rw [HPF.out] at hv3 hI3
      subst hv3
      have HI3 := Lib.hid hI3
      obtain ⟨p3, c3, rfl⟩ := hI3.form
      have HI2' := Lib.hid (HI2.out.chg0 C3)
      have hl5 : l.length ≤ 100000 := by have := HLEN2.out; rw [HPF.out] at this; exact this
      have HSM := Lib.hid fun w' C => same_any S2 S3 _ _ l l w' (HI2'.out.chg0 C) (HI3.out.chg0 C) hl5 hl5
      rw [decide_eq_true rfl] at HSM
      clear C3 hI3
      go_wp2_with fail
      refine (HSM.out _ (Chg.refl _ _)).mono ?_
      rintro e w4 ⟨rfl, C4⟩
      have HC4 := Lib.hid (HC3.out.step C4)
      clear C4
      go_wp2_with fail
      go_ret
      exact ⟨rfl, HC4.out⟩
end Go.Proofs.YtfidiiifcmmffaaGreatDoor
