/- What must be answered ahead of everything else. No condition. -/
import Derived.Test.YtdkplhdinklflaaBuild11
set_option linter.unusedVariables false
namespace Go.Proofs.Ytdkplhdinklflaa
open Go.RowKit Go.RR

def l0 : List In := [⟨1, 3, 0, 0, 2⟩, ⟨3, 3, 3, 0, 11⟩, ⟨2, 3, 3, 0, 904⟩]
theorem l0_eq : constF 3 (sgn 5000) = l0 := by decide +kernel
theorem l0_times : (timesF 2 3 l0).length = 6 := by decide +kernel
theorem l0_move : (moveF 1 2).length = 1 := by decide +kernel
theorem l0_right : rightP l0 = true := by decide +kernel
theorem l0_uses : usesF l0 = 8 := by decide +kernel
theorem l0_lock : lockB 1 0 2 2 = false := by decide +kernel
theorem l0_within : (withinF 1 0 2 3 l0).length = 8 := by decide +kernel

set_option maxHeartbeats 2000000 in
set_option maxRecDepth 100000 in
theorem first39_any (w : World) : Calls Try.prog 9 #[] w (RetW (.bool true) fun w' => Chg NoB w w') := by
  go_enter Try.func9, Try.ntmps9
  go_wp2_with fail
  refine (const_any 3 5000 _ (by decide) (by decide)).mono ?_
  rintro e w1 ⟨v1, rfl, N1⟩
  rw [l0_eq] at N1
  obtain ⟨p1, c1, rfl, hI⟩ := InsAt.of N1.1.sl (by decide)
  obtain ⟨g, of, rfl, hg, -, -, -, -, x4⟩ := hI.at (n := 0) rfl
  obtain ⟨g', of', e, hg', -, -, -, -, y4⟩ := hI.at (n := 2) rfl
  cases e
  simp only [Nat.zero_mul, Nat.add_zero] at x4
  have HN := Lib.hid N1
  have hl0 : l0.length = 3 := rfl
  have HL := Lib.hid hl0
  have hcap := hI.cap
  rw [hl0] at hcap ⊢
  clear N1 hI hl0
  go_wp2_with fail
  have HA := Lib.hid (show PAt w1 (.slice (some ⟨g, of, none⟩) 3 c1) l0 from HN.out.at)
  refine (times_any 2 3 _ l0 _ HA.out (by decide)).mono ?_
  rintro e w2 ⟨v2, rfl, N2⟩
  obtain ⟨p2, c2, e⟩ := N2.1.form
  rw [l0_times] at e
  subst e
  have HC2 := Lib.hid N2.2
  clear N2
  go_wp2_with fail
  refine (move_any 1 2 _).mono ?_
  rintro e w3 ⟨v3, rfl, N3⟩
  obtain ⟨p3, c3, e⟩ := N3.1.form
  rw [l0_move] at e
  subst e
  have HC3 := Lib.hid (HC2.out.step N3.2)
  clear N3
  go_wp2_with fail
  refine (bright_any _ _ l0 _ (HA.out.chg0 HC3.out).choose_spec (by decide)).mono ?_
  rintro e w4 ⟨rfl, C4⟩
  rw [l0_right]
  have HC4 := Lib.hid (HC3.out.step C4)
  clear C4
  go_wp2_with fail
  refine (uses39_any _ _ l0 _ (HA.out.chg0 HC4.out).choose_spec (by decide)).mono ?_
  rintro e w5 ⟨rfl, C5⟩
  rw [l0_uses]
  have HC5 := Lib.hid (HC4.out.step C5)
  clear C5
  go_wp2_with fail
  refine (lock_no 1 0 2 2 _ l0_lock).mono ?_
  rintro e w6 ⟨rfl, rfl⟩
  go_wp2_with fail
  refine (within_any 1 0 2 3 _ l0 _ (HA.out.chg0 HC5.out) (by decide)).mono ?_
  rintro e w7 ⟨v7, rfl, N7⟩
  obtain ⟨p7, c7, e⟩ := N7.1.form
  rw [l0_within] at e
  subst e
  have HC7 := Lib.hid (HC5.out.step N7.2)
  clear N7
  go_wp2_with fail
  go_ret
  exact ⟨rfl, HN.out.2.step HC7.out⟩
end Go.Proofs.Ytdkplhdinklflaa
