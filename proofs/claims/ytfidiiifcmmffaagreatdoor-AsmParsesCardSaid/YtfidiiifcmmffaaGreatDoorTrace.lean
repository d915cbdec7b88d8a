/- The reference's numbers as texts. No condition. -/
import Derived.Test.YtfidiiifcmmffaaGreatDoorTraceP1
import Derived.Test.YtfidiiifcmmffaaGreatDoorKit
import Derived.Test.YtfidiiifcmmffaaGreatDoorRows
set_option linter.unusedVariables false
set_option linter.unusedSimpArgs false
namespace Go.Proofs.YtfidiiifcmmffaaGreatDoor
open Go.RowKit Go.RR

theorem digit_at : ∀ d : Nat, d < 10 → (ByteArray.mk #[48, 49, 50, 51, 52, 53, 54, 55, 56, 57]).extract d (d + 1) = ⟨#[UInt8.ofNat (48 + d)]⟩ := by decide +kernel
theorem bs_append (a b : List UInt8) : (ByteArray.mk a.toArray) ++ (ByteArray.mk b.toArray) = ⟨(a ++ b).toArray⟩ := by
  apply ByteArray.ext
  simp
theorem dec_len : ∀ (k u : Nat), u < 10 ^ (k + 1) → (Go.Lib.decDigits u).length ≤ k + 1
  | 0, u, h => by rw [dec_small (by simpa using h)]; simp
  | k + 1, u, h => by
    by_cases h1 : u < 10
    · rw [dec_small h1]; simp
    · rw [dec_big h1, List.length_append]
      have := dec_len k (u / 10) (by rw [Nat.pow_succ] at h; omega)
      simp only [List.length_cons, List.length_nil]; omega
theorem digR_len (n more : Nat) (hm : more ≤ 1) (hn : n ≤ 9223372036854775807) : (digR n more).length ≤ 20 := by
  rw [digR_eq _ _ hm]
  exact dec_len 19 _ (by have : (10 : Nat) ^ (19 + 1) = 100000000000000000000 := by decide
                         omega)
set_option maxHeartbeats 4000000 in
set_option maxRecDepth 100000 in
theorem digits_any : ∀ (n more : Nat) (w : World), more ≤ 1 → n ≤ 9223372036854775807 → Calls Tryz.prog 50 #[.int .i64 n, .int .i64 more] w (RetW (.string ⟨(digR n more).toArray⟩) fun w' => w' = w) := by
  intro n
  induction n using Nat.strongRecOn with
  | _ n ih =>
    intro more w hm hn
    have hI := Lib.hid fun h0 : n ≠ 0 => fun m' w' (hm' : m' ≤ 1) => ih (n / 10) (by omega) m' w' hm' (by omega)
    clear ih
    have hc : ((n / 10 : Nat) : Int) = (n : Int) / 10 := by omega
    have hd := digR.eq_1 n more
    by_cases h10 : n % 10 + more = 10
    · have t0 : ((n : Int) % 10 + more == 10) = true := by rw [beq_iff_eq]; omega
      have h0 : n ≠ 0 := by omega
      rw [dif_pos ⟨h10, h0⟩] at hd
      have HD := Lib.hid hd
      have H1 := Lib.hid (hI.out h0 1 w (by omega))
      rw [hc] at H1
      have hlen := digR_len (n / 10) 1 (by omega) (by omega)
      have l0 : ¬ 9223372036854775807 < (digR (n / 10) 1).length + 1 := by omega
      have l1 : decide (9223372036854775807 < (digR (n / 10) 1).length + 1) = false := by simp; omega
      clear hd h10 hI hc hlen
      go_enter Tryz.func50, Tryz.ntmps50
      go_wp2_with fail
      refine H1.out.mono ?_
      rintro e w1 ⟨rfl, rfl⟩
      go_wp2_with fail
      go_ret
      exact ⟨by rw [HD.out, ← bs_append]; rfl, rfl⟩
    · have t0 : ((n : Int) % 10 + more == 10) = false := by rw [beq_eq_false_iff_ne]; omega
      rw [dif_neg (by omega)] at hd
      have hdl : n % 10 + more < 10 := by omega
      have hx := digit_at _ hdl
      have b0 : (0 : Int) ≤ (n : Int) % 10 + more + 1 ∧ (n : Int) % 10 + more + 1 ≤ 10 := by omega
      have b1 : (0 : Int) ≤ (n : Int) % 10 + more ∧ (n : Int) % 10 + more ≤ (n : Int) % 10 + more + 1 := by omega
      have HX := Lib.hid hx
      by_cases h0 : n / 10 = 0
      · have t1 : ((n : Int) / 10 == 0) = true := by rw [beq_iff_eq]; omega
        rw [dif_pos h0] at hd
        have HD := Lib.hid hd
        clear hd hI hc hx h0
        go_enter Tryz.func50, Tryz.ntmps50
        go_wp2_with fail
        go_ret
        exact ⟨by rw [HD.out]; exact congrArg (fun z => Ending.returned (Value.string z)) HX.out, rfl⟩
      · have t1 : ((n : Int) / 10 == 0) = false := by rw [beq_eq_false_iff_ne]; omega
        rw [dif_neg h0] at hd
        have HD := Lib.hid hd
        have H1 := Lib.hid (hI.out (by omega) 0 w (by omega))
        rw [hc] at H1
        have hlen := digR_len (n / 10) 0 (by omega) (by omega)
        have l0 : ¬ 9223372036854775807 < (digR (n / 10) 0).length + 1 := by omega
        have l1 : decide (9223372036854775807 < (digR (n / 10) 0).length + 1) = false := by simp; omega
        clear hd hI hc h0 hlen hx
        go_enter Tryz.func50, Tryz.ntmps50
        go_wp2_with fail
        refine H1.out.mono ?_
        rintro e w1 ⟨rfl, rfl⟩
        go_wp2_with fail
        go_ret
        refine ⟨?_, rfl⟩
        rw [HD.out, ← bs_append]
        exact congrArg (fun z => Ending.returned (Value.string ((ByteArray.mk (digR (n / 10) 0).toArray) ++ z))) HX.out
set_option maxHeartbeats 4000000 in
set_option maxRecDepth 100000 in
theorem num_any (n : Int) (w : World) (h : i64 n) : Calls Tryz.prog 24 #[.int .i64 n] w (RetW (.string ⟨(Go.Lib.itoa n).toArray⟩) fun w' => w' = w) := by
  obtain ⟨h1, h2⟩ := h
  have hd := itoa_digR n
  by_cases hn : n < 0
  · rw [if_pos hn] at hd
    obtain ⟨m, hm⟩ : ∃ m : Nat, -(n + 1) = m := ⟨(-(n + 1)).toNat, by omega⟩
    rw [hm, Int.toNat_natCast] at hd
    have H1 := Lib.hid (digits_any m 1 w (by omega) (by omega))
    have hlen := digR_len m 1 (by omega) (by omega)
    have l0 : ¬ 9223372036854775807 < 1 + (digR m 1).length := by omega
    have l1 : ¬ 9223372036854775807 < (digR m 1).length + 1 := by omega
    have t0 : decide (n < 0) = true := by simp; omega
    have HD := Lib.hid hd
    have HM := Lib.hid hm
    clear hd hm hlen
    go_enter Tryz.func24, Tryz.ntmps24
    go_wp2_with fail
    rw [HM.out]
    refine H1.out.mono ?_
    rintro e w1 ⟨rfl, rfl⟩
    go_wp2_with fail
    go_ret
    refine ⟨?_, rfl⟩
    rw [HD.out, show (45 :: digR m 1) = [45] ++ digR m 1 from rfl, ← bs_append]
    rfl
  · rw [if_neg hn] at hd
    obtain ⟨m, rfl⟩ : ∃ m : Nat, n = m := ⟨n.toNat, by omega⟩
    rw [Int.toNat_natCast] at hd
    have H1 := Lib.hid (digits_any m 0 w (by omega) (by omega))
    have t0 : decide ((m : Int) < 0) = false := by simp
    have HD := Lib.hid hd
    clear hd
    go_enter Tryz.func24, Tryz.ntmps24
    go_wp2_with fail
    refine H1.out.mono ?_
    rintro e w1 ⟨rfl, rfl⟩
    go_wp2_with fail
    go_ret
    exact ⟨by rw [HD.out]; rfl, rfl⟩
end Go.Proofs.YtfidiiifcmmffaaGreatDoor
