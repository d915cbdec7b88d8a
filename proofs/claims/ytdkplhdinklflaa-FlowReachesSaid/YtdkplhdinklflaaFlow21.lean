/- FlowReaches returns true, whatever it is given. No condition. -/
import Derived.Test.YtdkplhdinklflaaFlow7
import Derived.Test.YtdkplhdinklflaaFlow8
import Derived.Test.YtdkplhdinklflaaFlow9
import Derived.Test.YtdkplhdinklflaaFlow19
set_option linter.unusedVariables false
namespace Go.Proofs.Ytdkplhdinklflaa
open Go.RowKit Go.RR

set_option maxHeartbeats 8000000 in
set_option maxRecDepth 100000 in
theorem flowReaches_any (S : Nat → Prop) (v : Value) (l : List In) (w : World) (hs : Sl w S 5 v l.length (icells l)) (hl : l.length ≤ 9223372036854775807) :
    Calls Try.prog 7 #[v] w (RetW (.bool true) fun w' => Chg NoB w w') := by
  obtain ⟨pv, cv, rfl⟩ := hs.form
  have HS := Lib.hid hs
  have HL := Lib.hid hl
  have q0 : ((l.length : Int) != l.length) = false := by simp
  have q0' : (l.length != l.length) = false := by simp
  clear hs hl
  go_enter Try.func7, Try.ntmps7
  go_wp2_with fail
  refine (first31_any _).mono ?_
  rintro e w1 ⟨rfl, C1⟩
  have HC1 := Lib.hid C1
  clear C1
  go_wp2_with fail
  refine (right31_any _ _ l _ (HS.out.chg0 HC1.out) HL.out).mono ?_
  rintro e w2 ⟨rfl, C2⟩
  have HC2 := Lib.hid (HC1.out.step C2)
  clear C2
  cases hA : askB l
  · clear hA
    go_wp2_with fail
    go_ret
    exact ⟨rfl, HC2.out⟩
  · obtain ⟨h40, hr⟩ := askB_in hA
    have HR := Lib.hid hr
    clear hA hr
    go_wp2_with fail
    refine (reach_any _ _ l _ (HS.out.chg0 HC2.out) h40 HR.out).mono ?_
    rintro e w3 ⟨y3, rfl, I3, C3⟩
    have HE := Lib.hid (fromF_take_len l [0])
    obtain ⟨p3, c3, rfl⟩ := I3.form
    rw [HE.out] at I3 ⊢
    have HC3 := Lib.hid (HC2.out.step C3)
    have HI3 := Lib.hid I3
    clear I3 C3
    go_wp2_with fail
    have A3 := (Chg.refl NoB w3).alloc (.cells #[.int .i64 0] 3)
    refine (rfrom_any _ _ _ l [0] _ (HS.out.chg0 (HC3.out.step A3)) h40 HR.out (IAt.fresh w3 [0]) (by intro n hn; cases hn with | head => omega | tail _ h => cases h) (by decide)).mono ?_
    rintro e w4 ⟨y4, rfl, I4, C4⟩
    obtain ⟨p4, c4, rfl⟩ := I4.form
    have HC4 := Lib.hid (HC3.out.step (A3.step C4))
    have HI3' := Lib.hid (HI3.out.chg0 (A3.step C4))
    rw [HE.out] at I4
    have HI4 := Lib.hid I4
    clear I4 C4 A3
    rw [HE.out]
    go_wp2_with fail
    go_loopg [27] l.length (fun gk ix wr => ∃ p : Nat, p + gk = l.length ∧ ix = .int .i64 p ∧ Chg NoB w4 wr)
    case atStart => exact ⟨0, by omega, rfl, Chg.refl _ _⟩
    case round =>
      obtain ⟨p, hp, rfl, hC⟩ := hrel
      rename World => wr
      have HP := Lib.hid hp
      have HC := Lib.hid hC
      have hpl : p ≤ l.length := by omega
      clear hp hC
      by_cases hlt : p < l.length
      · have k0 : (0 : Int) ≤ p := by omega
        have k1 : (p : Int) < l.length := by omega
        obtain ⟨-, hca, ga, oa, rfl, hga, a0⟩ := (HI3'.out.chg0 HC.out).spot (k := p) (by rw [HE.out]; exact hlt)
        obtain ⟨-, hcb, gb, ob, rfl, hgb, b0⟩ := (HI4.out.chg0 HC.out).spot (k := p) (by rw [HE.out]; exact hlt)
        obtain ⟨b, hb⟩ : ∃ b, mk ((fromF (nxN l) l.length [0]).take l.length) p = b := ⟨_, rfl⟩
        rw [hb] at a0 b0
        clear hb
        cases b
        · go_wp2_with fail
          go_quiet (fail)
          go_wp2_with fail
          go_roundg (l.length - (p + 1))
          case measure => have := HP.out; omega
          case rel => exact ⟨p + 1, by have := HP.out; omega, by go_num, HC.out.drewN _⟩
        · go_wp2_with fail
          go_quiet (fail)
          go_wp2_with fail
          go_roundg (l.length - (p + 1))
          case measure => have := HP.out; omega
          case rel => exact ⟨p + 1, by have := HP.out; omega, by go_num, HC.out.drewN _⟩
      · obtain rfl : p = l.length := by omega
        clear HI3' HI4
        have q1 : ((longF l : Int) == longF l) = true := by simp
        have q1' : (longF l == longF l) = true := by simp
        have q2 : (loopF (nxN l) l.length == loopF (nxN l) l.length) = true := by simp
        have q3 : ((!loopF (nxN l) l.length) == (!loopF (nxN l) l.length)) = true := by simp
        have HC5 := Lib.hid (HC4.out.step HC.out)
        go_wp2_with fail
        refine (flongest_any _ _ l _ (HS.out.chg0 HC5.out) h40 HR.out).mono ?_
        rintro e w5 ⟨rfl, C6⟩
        have HC6 := Lib.hid (HC5.out.step C6)
        clear C6
        go_wp2_with fail
        refine (rlongest_any _ _ l _ (HS.out.chg0 HC6.out) h40 HR.out).mono ?_
        rintro e w6 ⟨rfl, C7⟩
        have HC7 := Lib.hid (HC6.out.step C7)
        clear C7
        go_wp2_with fail
        refine (floops_any _ _ l _ (HS.out.chg0 HC7.out) h40 HR.out).mono ?_
        rintro e w7 ⟨rfl, C8⟩
        have HC8 := Lib.hid (HC7.out.step C8)
        clear C8
        go_wp2_with fail
        refine (rloops_any _ _ l _ (HS.out.chg0 HC8.out) h40 HR.out).mono ?_
        rintro e w8 ⟨rfl, C9⟩
        have HC9 := Lib.hid (HC8.out.step C9)
        clear C9
        go_wp2_with fail
        go_ret
        exact ⟨rfl, HC9.out⟩
end Go.Proofs.Ytdkplhdinklflaa
