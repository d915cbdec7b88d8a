/- Pieces of programs: constants by the reference. No condition. -/
import Derived.Test.YtdkplhdinklflaaBuild6
set_option linter.unusedVariables false
namespace Go.Proofs.Ytdkplhdinklflaa
open Go.RowKit Go.RR

def sgn (v : Int) : Int := if v < 9223372036854775808 then v else v - 18446744073709551616
theorem sgn_in {v : Int} (h0 : 0 ≤ v) (h1 : v < U64) : -9223372036854775808 ≤ sgn v ∧ sgn v ≤ 9223372036854775807 ∧ v = sgn v % U64 := by
  unfold sgn U64 at *; split <;> omega
theorem const_any (rd v : Int) (w : World) (h0 : 0 ≤ v) (h1 : v < U64) : Calls Try.prog 53 #[.int .i64 rd, .int .u64 v] w (RetSl fun x w' => IsNew w w' x (constF rd (sgn v))) := by
  obtain ⟨a, b, c⟩ := sgn_in h0 h1
  unfold constF
  by_cases hr : ownB rd = true
  · rw [if_pos hr]
    refine const_go rd hr 6 (sgn v) w (by omega) ?_ ?_ a b v c
    · have : (2048 : Int) ^ (6 + 1) = 151115727451828646838272 := by decide
      omega
    · have : (2048 : Int) ^ (6 + 1) = 151115727451828646838272 := by decide
      omega
  · rw [if_neg hr]
    have hr' : ownB rd = false := by simpa using hr
    have HR := Lib.hid hr'
    clear hr hr' a b c h0 h1
    go_enter Try.func53, Try.ntmps53
    go_wp2_with fail
    refine (own_any rd _).mono ?_
    rintro e w1 ⟨rfl, rfl⟩
    rw [HR.out]
    go_wp2_with fail
    go_ret
    exact ⟨_, rfl, IsNew.nil _⟩

theorem shr_any (v n : Int) (w : World) (h : v = n % U64) (h0 : -9223372036854775808 ≤ n) (h1 : n ≤ 9223372036854775807) : Calls Try.prog 92 #[.int .u64 v] w fun e w' => e = .returned (.int .u64 ((n / 2048) % U64)) ∧ w = w' := by
  unfold U64 at *
  have e1 : v / 9223372036854775808 = if n < 0 then 1 else 0 := by split <;> omega
  have e2 : (n / 2048) % 18446744073709551616 = if n < 0 then v / 2048 + 18437736874454810624 else v / 2048 := by split <;> omega
  have v0 : 0 ≤ v := by omega
  have E2 := Lib.hid e2
  by_cases hn : n < 0
  · rw [if_pos hn] at e1 e2
    rw [e2]
    have b1 : v / 2048 + 18437736874454810624 ≤ 18446744073709551615 := by omega
    clear h h0 h1 e2 hn
    go_enter Try.func92, Try.ntmps92
    go_wp2
    go_ret
    exact ⟨rfl, rfl⟩
  · rw [if_neg hn] at e1 e2
    rw [e2]
    have b1 : v / 2048 ≤ 18446744073709551615 := by omega
    have b2 : 0 ≤ v / 2048 := by omega
    clear h h0 h1 e2 hn
    go_enter Try.func92, Try.ntmps92
    go_wp2
    go_ret
    exact ⟨rfl, rfl⟩
set_option maxHeartbeats 2000000 in
set_option maxRecDepth 100000 in
theorem rconst_go (rd : Int) (hr : ownB rd = true) : ∀ (f : Nat) (n : Int) (w : World), f ≤ 6 → -(2048 ^ (f + 1)) ≤ n → n < 2048 ^ (f + 1) → -9223372036854775808 ≤ n → n ≤ 9223372036854775807 → ∀ v : Int, v = n % U64 → Calls Try.prog 66 #[.int .i64 rd, .int .u64 v] w (RetSl fun x w' => IsNew w w' x (constG f rd n)) := by
  obtain ⟨i0, hi0, hz0, hz1, hz2⟩ := info_parts INinfo
  have HI := Lib.hid (And.intro hi0 (And.intro hz0 (And.intro hz1 hz2)))
  have hrd := ownB_in hr
  have r0 : decide (rd < 1) = false := by simp; omega
  have r1 : decide (15 < rd) = false := by simp; omega
  clear hr hi0 hz0 hz1 hz2 hrd
  have small : ∀ (n : Int) (w : World), -2048 ≤ n → n ≤ 2047 → ∀ v : Int, v = n % U64 → Calls Try.prog 66 #[.int .i64 rd, .int .u64 v] w (RetSl fun x w' => IsNew w w' x [⟨1, rd, 0, 0, n⟩]) := by
    intro n w h1 h2 v hv
    unfold U64 at hv
    by_cases hp : 0 ≤ n
    · obtain rfl : v = n := by omega
      have t0 : decide (v < 2048) = true := by simp; omega
      have b0 : v ≤ 2047 := h2
      clear h1 hv h2
      go_enter Try.func66, Try.ntmps66
      go_wp2_with fail
      go_ret
      exact ⟨_, rfl, IsNew.fresh _ [⟨1, rd, 0, 0, v⟩] _ rfl 1 rfl (by omega)⟩
    · have t0 : decide (v < 2048) = false := by simp; omega
      have t1 : decide (18446744073709549568 ≤ v) = true := by simp; omega
      have k1 : IntKind.u64.wrap (v - 18446744073709549568) = n + 2048 := by rw [IntKind.wrap_u64]; omega
      have k2 : v - 18446744073709549568 = n + 2048 := by omega
      have b0 : 0 ≤ n + 2048 := by omega
      have b1 : n + 2048 ≤ 2047 := by omega
      have k3 : n + 2048 - 2048 = n := by omega
      have HK := Lib.hid k3
      clear h1 h2 hv hp k3
      go_enter Try.func66, Try.ntmps66
      go_wp2_with fail
      go_ret
      refine ⟨_, rfl, ?_⟩
      have := IsNew.fresh w [⟨1, rd, 0, 0, n + 2048 - 2048⟩] _ rfl 1 rfl (by omega)
      rw [HK.out] at this
      first | exact this | (simp [icells, In.cells] at this ⊢; exact this)
  have SM := Lib.hid small
  clear small
  intro f
  induction f with
  | zero =>
    intro n w hf h1 h2 h3 h4 v hv
    exact SM.out n w (by simpa using h1) (by simp at h2; omega) v hv
  | succ f ih =>
    intro n w hf h1 h2 h3 h4 v hv
    by_cases hs : -2048 ≤ n ∧ n ≤ 2047
    · have e : constG (f + 1) rd n = [(⟨1, rd, 0, 0, n⟩ : In)] := by unfold constG; rw [if_pos hs]
      rw [e]
      exact SM.out n w hs.1 hs.2 v hv
    · have HV := Lib.hid hv
      have IH := Lib.hid ih
      have HB := Lib.hid (And.intro h1 (And.intro h2 (And.intro h3 h4)))
      have HS := Lib.hid hs
      have t0 : decide (v < 2048) = false := by unfold U64 at hv; simp; omega
      have t1 : decide (18446744073709549568 ≤ v) = false := by unfold U64 at hv; simp; omega
      have v0 : 0 ≤ v := by unfold U64 at hv; omega
      obtain ⟨r, hr⟩ : ∃ r, n % 2048 = r := ⟨_, rfl⟩
      have kb : v % 2048 = r := by unfold U64 at hv; omega
      have q0 : 0 ≤ r := by omega
      have q1 : r ≤ 2047 := by omega
      have HRR := Lib.hid hr
      clear hr hs hv ih h1 h2 h3 h4
      go_enter Try.func66, Try.ntmps66
      go_wp2_with fail
      refine (shr_any v n _ HV.out HB.out.2.2.1 HB.out.2.2.2).mono ?_
      rintro e w1 ⟨rfl, rfl⟩
      go_wp2_with fail
      refine (IH.out (n / 2048) _ (by omega) (by have := HB.out; rw [Int.pow_succ] at this; omega) (by have := HB.out; rw [Int.pow_succ] at this; omega) (by have := HB.out; omega) (by have := HB.out; omega) _ rfl).mono ?_
      rintro e w2 ⟨v2, rfl, N2⟩
      obtain ⟨p2, c2, e⟩ := N2.1.form
      subst e
      have hlen := constG_len rd f (n / 2048)
      have D2 := (Chg.refl NoB w2).alloc (.cells #[.int .i64 3, .int .i64 rd, .int .i64 rd, .int .i64 0, .int .i64 11] 32)
      have N3 := N2.then0 D2
      have oA := N3.1
      have sB := (IsNew.fresh w2 [⟨3, rd, rd, 0, 11⟩] _ rfl 1 rfl (by omega)).1.sl
      have one1 := icells_one [⟨3, rd, rd, 0, 11⟩]
      have b1 : (constG f rd (n / 2048)).length + 1 ≤ maxLen := by unfold maxLen; omega
      have b2 : ((constG f rd (n / 2048)).length + 1) * 40 ≤ 140737488355328 := by omega
      obtain ⟨hi0, hz0, hz1, hz2⟩ := HI.out
      generalize hG : constG f rd (n / 2048) = G at *
      have HG := Lib.hid hG
      have H3 := Lib.hid N3
      clear N2 N3 D2 hG
      go_wp2_with (at_builtin; go_must (refine wpList_app rfl _ _ 23 rfl i0 _ 40 Try.underlying23 hi0 hz0 hz1 hz2 rfl rfl oA _ 1 _ rfl sB one1 b1 b2 ?_))
      intro v4 w4 o4 g4 _
      have N4 := H3.out.appd (m := [⟨3, rd, rd, 0, 11⟩]) (by simpa using o4) g4
      obtain ⟨p4, c4, e⟩ := N4.1.form
      subst e
      have H4 := Lib.hid N4
      clear N4 o4 g4 oA sB one1 b1 b2 H3 hi0 hz0 hz1 hz2
      by_cases hz : r = 0
      · have q2 : decide (0 < r) = false := by simp; omega
        have HZ := Lib.hid hz
        clear hz
        go_wp2_with fail
        go_ret
        refine ⟨_, rfl, ?_⟩
        have e : constG (f + 1) rd n = G ++ [(⟨3, rd, rd, 0, 11⟩ : In)] := by
          rw [constG, if_neg HS.out, HG.out, HRR.out, if_pos HZ.out]
        rw [e]
        exact H4.out
      · have q2 : decide (0 < r) = true := by simp; omega
        have HZ := Lib.hid hz
        clear hz
        have N5 := H4.out.then0 ((Chg.refl NoB w4).alloc (.cells #[.int .i64 2, .int .i64 rd, .int .i64 rd, .int .i64 0, .int .i64 r] 32))
        have oA := N5.1
        have sB := (IsNew.fresh w4 [⟨2, rd, rd, 0, r⟩] _ rfl 1 rfl (by omega)).1.sl
        have one1 := icells_one [⟨2, rd, rd, 0, r⟩]
        have b1 : (G ++ [(⟨3, rd, rd, 0, 11⟩ : In)]).length + 1 ≤ maxLen := by unfold maxLen; simp; omega
        have b2 : ((G ++ [(⟨3, rd, rd, 0, 11⟩ : In)]).length + 1) * 40 ≤ 140737488355328 := by simp; omega
        obtain ⟨hi0, hz0, hz1, hz2⟩ := HI.out
        generalize hG2 : G ++ [(⟨3, rd, rd, 0, 11⟩ : In)] = G2 at *
        have HG2 := Lib.hid hG2
        have H5 := Lib.hid N5
        clear hG2 N5 H4
        go_wp2_with (at_builtin; go_must (refine wpList_app rfl _ _ 23 rfl i0 _ 40 Try.underlying23 hi0 hz0 hz1 hz2 rfl rfl oA _ 1 _ rfl sB one1 b1 b2 ?_))
        intro v6 w6 o6 g6 _
        have N6 := H5.out.appd (m := [⟨2, rd, rd, 0, r⟩]) (by simpa using o6) g6
        have H6 := Lib.hid N6
        clear N6 o6 g6 oA sB one1 b1 b2 H5 hi0 hz0 hz1 hz2
        go_wp2_with fail
        go_ret
        refine ⟨_, rfl, ?_⟩
        have e : constG (f + 1) rd n = G2 ++ [⟨2, rd, rd, 0, r⟩] := by
          rw [constG, if_neg HS.out, HG.out, HRR.out, if_neg HZ.out, ← HG2.out]; simp
        rw [e]
        exact H6.out

theorem rconst_any (rd v : Int) (w : World) (h0 : 0 ≤ v) (h1 : v < U64) : Calls Try.prog 66 #[.int .i64 rd, .int .u64 v] w (RetSl fun x w' => IsNew w w' x (constF rd (sgn v))) := by
  obtain ⟨a, b, c⟩ := sgn_in h0 h1
  unfold constF
  by_cases hr : ownB rd = true
  · rw [if_pos hr]
    refine rconst_go rd hr 6 (sgn v) w (by omega) ?_ ?_ a b v c
    · have : (2048 : Int) ^ (6 + 1) = 151115727451828646838272 := by decide
      omega
    · have : (2048 : Int) ^ (6 + 1) = 151115727451828646838272 := by decide
      omega
  · rw [if_neg hr]
    by_cases hl : rd < 1
    · have r0 : decide (rd < 1) = true := by simp; omega
      clear hr a b c h0 h1 hl
      go_enter Try.func66, Try.ntmps66
      go_wp2_with fail
      go_ret
      exact ⟨_, rfl, IsNew.nil _⟩
    · have r0 : decide (rd < 1) = false := by simp; omega
      have r1 : decide (15 < rd) = true := by
        simp
        by_cases h : rd ≤ 15
        · exact absurd (ownB_yes (by omega) h) hr
        · omega
      clear hr a b c h0 h1 hl
      go_enter Try.func66, Try.ntmps66
      go_wp2_with fail
      go_ret
      exact ⟨_, rfl, IsNew.nil _⟩
end Go.Proofs.Ytdkplhdinklflaa
