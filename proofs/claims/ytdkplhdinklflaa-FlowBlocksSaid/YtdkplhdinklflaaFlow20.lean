/- FlowBlocks returns true, whatever it is given. No condition. -/
import Derived.Test.YtdkplhdinklflaaFlow2
import Derived.Test.YtdkplhdinklflaaFlow17
import Derived.Test.YtdkplhdinklflaaFlow19
set_option linter.unusedVariables false
namespace Go.Proofs.Ytdkplhdinklflaa
open Go.RowKit Go.RR

theorem blocksF_len (l : List In) : (blocksF l).length ≤ l.length + 1 := by
  unfold blocksF
  split
  · simp
  · rw [List.length_map, List.length_range]; have := begF_len l; omega
theorem blocksF_nexts (l : List In) : ∀ b ∈ blocksF l, b.2.2.length ≤ 1000 := by
  intro b hb
  by_cases h : l.length = 0
  · unfold blocksF at hb; rw [if_pos h] at hb; cases hb
  · rw [blocksF_P h] at hb
    obtain ⟨k, -, rfl⟩ := List.mem_map.1 hb
    show ((nxN l _).map (cntN (begF l))).length ≤ 1000
    rw [List.length_map, nxN_len]
    have := nextF_len l (((begF l).getD (k + 1) 0 - 1 : Nat) : Int)
    omega

set_option maxHeartbeats 8000000 in
set_option maxRecDepth 100000 in
theorem flowBlocks_any (S : Nat → Prop) (v : Value) (l : List In) (at' : Int) (w : World) (hs : Sl w S 5 v l.length (icells l)) (hl : l.length ≤ 9223372036854775807) (ha : -9223372036854775808 ≤ at' ∧ at' ≤ 9223372036854775807) :
    Calls Try.prog 6 #[v, .int .i64 at'] w (RetW (.bool true) fun w' => Chg NoB w w') := by
  obtain ⟨pv, cv, rfl⟩ := hs.form
  have HS := Lib.hid hs
  have HL := Lib.hid hl
  have HA := Lib.hid ha
  clear hs hl ha
  go_enter Try.func6, Try.ntmps6
  go_wp2_with fail
  refine (first31_any _).mono ?_
  rintro e w1 ⟨rfl, C1⟩
  have HC1 := Lib.hid C1
  clear C1
  go_wp2_with fail
  refine (right31_any _ _ l _ (HS.out.chg0 HC1.out) HL.out).mono ?_
  rintro e w2 ⟨rfl, C2⟩
  have HC2 := Lib.hid (HC1.out.step C2)
  clear C2
  cases hA : askB l
  · clear hA
    go_wp2_with fail
    go_ret
    exact ⟨rfl, HC2.out⟩
  · obtain ⟨h40, hr⟩ := askB_in hA
    have HR := Lib.hid hr
    clear hA hr
    go_wp2_with fail
    go_loopg [13] l.length (fun gk ix wr => ∃ p : Nat, p + gk = l.length ∧ ix = .int .i64 p ∧ Chg NoB w wr)
    case atStart => exact ⟨0, by omega, rfl, HC2.out⟩
    case round =>
      obtain ⟨p, hp, rfl, hC⟩ := hrel
      rename World => wr
      have HP := Lib.hid hp
      have HC := Lib.hid hC
      have hpl : p ≤ l.length := by omega
      clear hp hC
      by_cases hlt : p < l.length
      · have k1 : (p : Int) < l.length := by omega
        go_wp2_with fail
        refine (fnext_any _ _ l p _ (HS.out.chg0 HC.out) h40 HR.out).mono ?_
        rintro e w3 ⟨y3, rfl, I3, C3⟩
        obtain ⟨p3, c3, rfl⟩ := I3.ints.form
        have HI3 := Lib.hid I3.ints
        have HC3 := Lib.hid (HC.out.step C3)
        have hn2 := nextF_len l p
        clear I3 C3
        go_wp2_with fail
        refine (rnext_any _ _ l p _ (HS.out.chg0 HC3.out) h40 HR.out (by omega)).mono ?_
        rintro e w4 ⟨y4, rfl, I4, C4⟩
        obtain ⟨p4, c4, rfl⟩ := I4.ints.form
        have HI4 := Lib.hid I4.ints
        have HI3' := Lib.hid (HI3.out.chg0 C4)
        have HC4 := Lib.hid (HC3.out.step C4)
        clear I4 C4
        go_wp2_with fail
        refine (ints_any _ _ _ _ _ HI3'.out HI4.out (by omega) (by omega)).mono ?_
        rintro e w5 ⟨rfl, C5⟩
        rw [decide_eq_true rfl]
        have HC5 := Lib.hid (HC4.out.step C5)
        clear C5
        go_wp2_with fail
        go_roundg (l.length - (p + 1))
        case measure => have := HP.out; omega
        case rel => exact ⟨p + 1, by have := HP.out; omega, by go_num, HC5.out⟩
      · obtain rfl : p = l.length := by omega
        go_wp2_with fail
        refine (fnext_any _ _ l at' _ (HS.out.chg0 HC.out) h40 HR.out).mono ?_
        rintro e w3 ⟨y3, rfl, I3, C3⟩
        obtain ⟨p3, c3, rfl⟩ := I3.ints.form
        have HI3 := Lib.hid I3.ints
        have HC3 := Lib.hid (HC.out.step C3)
        have hn2 := nextF_len l at'
        clear I3 C3
        go_wp2_with fail
        refine (rnext_any _ _ l at' _ (HS.out.chg0 HC3.out) h40 HR.out HA.out).mono ?_
        rintro e w4 ⟨y4, rfl, I4, C4⟩
        obtain ⟨p4, c4, rfl⟩ := I4.ints.form
        have HI4 := Lib.hid I4.ints
        have HI3' := Lib.hid (HI3.out.chg0 C4)
        have HC4 := Lib.hid (HC3.out.step C4)
        clear I4 C4
        go_wp2_with fail
        refine (ints_any _ _ _ _ _ HI3'.out HI4.out (by omega) (by omega)).mono ?_
        rintro e w5 ⟨rfl, C5⟩
        rw [decide_eq_true rfl]
        have HC5 := Lib.hid (HC4.out.step C5)
        clear C5
        go_wp2_with fail
        refine (fblocks_any _ _ l _ (HS.out.chg0 HC5.out) h40 HR.out).mono ?_
        rintro e w6 ⟨y6, rfl, B6, C6⟩
        obtain ⟨p6, c6, rfl⟩ := B6.form
        have HB6 := Lib.hid B6
        have HC6 := Lib.hid (HC5.out.step C6)
        clear B6 C6
        go_wp2_with fail
        refine (rblocks_any _ _ l _ (HS.out.chg0 HC6.out) h40 HR.out).mono ?_
        rintro e w7 ⟨y7, rfl, B7, C7⟩
        obtain ⟨p7, c7, rfl⟩ := B7.form
        have HB7 := Lib.hid B7
        have HB6' := Lib.hid (HB6.out.chg C7 fun _ _ _ => id)
        have HC7 := Lib.hid (HC6.out.step C7)
        clear B7 C7
        go_wp2_with fail
        refine (rsame_any HB6'.out HB7.out (by have := blocksF_len l; omega) (blocksF_nexts l)).mono ?_
        rintro e w8 ⟨rfl, C8⟩
        have HC8 := Lib.hid (HC7.out.step C8)
        clear C8
        go_wp2_with fail
        go_ret
        exact ⟨rfl, HC8.out⟩
end Go.Proofs.Ytdkplhdinklflaa
