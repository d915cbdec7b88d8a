/- Pieces of programs: constants. No condition. -/
import Derived.Test.YtdkplhdinklflaaBuild5
import Derived.Laws.Bits64b
import Derived.Laws.BitsLemmas
set_option linter.unusedVariables false
namespace Go.Proofs.Ytdkplhdinklflaa
open Go.RowKit Go.RR

theorem IsNew.appd {w w3 w4 : World} {v v' : Value} {l m : List In} (h : IsNew w w3 v l) (o : Own w4 (fun k => v.ownBlock = some k ∨ k = w3.heap.size) 32 5 v' (l.length + m.length) (icells l ++ icells m)) (g : w3.grownBy w4 v.ownBlock) : IsNew w w4 v' (l ++ m) := by
  have hob := h.1.ownBlock
  refine ⟨?_, h.2.grown g fun k hk => .inr (hob k hk).1⟩
  rw [icells_app, List.length_append]
  exact o.mono fun k hk => hk.elim (fun h => (hob k h).1) (fun e => by have := h.2.size; omega)
def constG : Nat → Int → Int → List In
  | 0, rd, n => [⟨1, rd, 0, 0, n⟩]
  | f + 1, rd, n => if -2048 ≤ n ∧ n ≤ 2047 then [⟨1, rd, 0, 0, n⟩] else constG f rd (n / 2048) ++ (⟨3, rd, rd, 0, 11⟩ :: if n % 2048 = 0 then [] else [⟨2, rd, rd, 0, n % 2048⟩])
theorem constG_len (rd : Int) : ∀ (f : Nat) (n : Int), 1 ≤ (constG f rd n).length ∧ (constG f rd n).length ≤ 2 * f + 1
  | 0, n => by simp [constG]
  | f + 1, n => by
    have := constG_len rd f (n / 2048)
    unfold constG
    split
    · simp
    · split <;> simp <;> omega
def constF (rd n : Int) : List In := if ownB rd = true then constG 6 rd n else []
def U64 : Int := 18446744073709551616
theorem low11 (v n : Int) (h : v = n % U64) : bits .and .u64 v 2047 = n % 2048 := by
  unfold U64 at h
  have := bits_mask .u64 64 (by decide) (fun m h0 h1 => by rw [IntKind.wrap_u64]; omega) 11 (by decide) v (by omega) (by omega)
  have e1 : ((2 : Int) ^ 11 - 1) = 2047 := by decide
  have e2 : ((2 : Int) ^ 11) = 2048 := by decide
  rw [e1, e2] at this
  rw [this]
  omega

set_option maxHeartbeats 2000000 in
set_option maxRecDepth 100000 in
theorem const_go (rd : Int) (hr : ownB rd = true) : ∀ (f : Nat) (n : Int) (w : World), f ≤ 6 → -(2048 ^ (f + 1)) ≤ n → n < 2048 ^ (f + 1) → -9223372036854775808 ≤ n → n ≤ 9223372036854775807 → ∀ v : Int, v = n % U64 → Calls Try.prog 53 #[.int .i64 rd, .int .u64 v] w (RetSl fun x w' => IsNew w w' x (constG f rd n)) := by
  obtain ⟨i0, hi0, hz0, hz1, hz2⟩ := info_parts INinfo
  have HR := Lib.hid hr
  have HI := Lib.hid (And.intro hi0 (And.intro hz0 (And.intro hz1 hz2)))
  clear hr hi0 hz0 hz1 hz2
  intro f
  induction f with
  | zero =>
    intro n w hf h1 h2 h3 h4 v hv
    have hc : IntKind.i64.wrap v = n := by rw [IntKind.wrap_i64, hv]; unfold U64; omega
    have t0 : decide (-2048 ≤ n) = true := by simp; omega
    have t1 : decide (n ≤ 2047) = true := by simp; omega
    clear h1 h2 h3 hv
    go_enter Try.func53, Try.ntmps53
    go_wp2_with fail
    refine (own_any rd _).mono ?_
    rintro e w1 ⟨rfl, rfl⟩
    rw [HR.out]
    go_wp2_with fail
    go_ret
    exact ⟨_, rfl, IsNew.fresh _ [⟨1, rd, 0, 0, n⟩] _ rfl 1 rfl (by omega)⟩
  | succ f ih =>
    intro n w hf h1 h2 h3 h4 v hv
    have HV := Lib.hid hv
    have hc : IntKind.i64.wrap v = n := by rw [IntKind.wrap_i64, hv]; unfold U64; omega
    have IH := Lib.hid ih
    have HB := Lib.hid (And.intro h1 (And.intro h2 (And.intro h3 h4)))
    have HB0 := h3
    have h4' := h4
    clear hv ih h1 h2 h3 h4
    by_cases hs : -2048 ≤ n ∧ n ≤ 2047
    · have h1 := hs.1
      have h2 := hs.2
      have e : constG (f + 1) rd n = constG 0 rd n := by show _ = [(⟨1, rd, 0, 0, n⟩ : In)]; unfold constG; rw [if_pos hs]
      rw [e]
      clear hs e hc IH HB
      have hv := HV.out
      have h3 := HB0
      have hc : IntKind.i64.wrap v = n := by rw [IntKind.wrap_i64, hv]; unfold U64; omega
      have t0 : decide (-2048 ≤ n) = true := by simp; omega
      have t1 : decide (n ≤ 2047) = true := by simp; omega
      clear h1 h2 h3 hv
      go_enter Try.func53, Try.ntmps53
      go_wp2_with fail
      refine (own_any rd _).mono ?_
      rintro e w1 ⟨rfl, rfl⟩
      rw [HR.out]
      go_wp2_with fail
      go_ret
      exact ⟨_, rfl, IsNew.fresh _ [⟨1, rd, 0, 0, n⟩] _ rfl 1 rfl (by omega)⟩
    · have hwr : IntKind.u64.wrap (n / 2048) = (n / 2048) % U64 := by rw [IntKind.wrap_u64]; rfl
      have HW := Lib.hid hwr
      have HS := Lib.hid hs
      obtain ⟨r, hr⟩ : ∃ r, n % 2048 = r := ⟨_, rfl⟩
      have kb := low11 v n HV.out
      rw [hr] at kb
      have r0 : 0 ≤ r := by omega
      have r1 : r ≤ 2047 := by omega
      have HRR := Lib.hid hr
      clear hr
      have hcase : (decide (-2048 ≤ n) = false) ∨ (decide (-2048 ≤ n) = true ∧ decide (n ≤ 2047) = false) := by
        by_cases h : -2048 ≤ n
        · right; simp; omega
        · left; simp; omega
      clear hwr hs
      rcases hcase with t0 | ⟨t0, t1⟩
      all_goals
        go_enter Try.func53, Try.ntmps53
        go_wp2_with fail
        refine (own_any rd _).mono ?_
        rintro e w1 ⟨rfl, rfl⟩
        rw [HR.out]
        go_wp2_with fail
        refine (IH.out (n / 2048) _ (by omega) (by have := HB.out; rw [Int.pow_succ] at this; omega) (by have := HB.out; rw [Int.pow_succ] at this; omega) (by have := HB.out; omega) (by have := HB.out; omega) _ HW.out).mono ?_
        rintro e w2 ⟨v2, rfl, N2⟩
        obtain ⟨p2, c2, e⟩ := N2.1.form
        subst e
        have hlen := constG_len rd f (n / 2048)
        have D2 := (Chg.refl NoB w2).alloc (.cells #[.int .i64 3, .int .i64 rd, .int .i64 rd, .int .i64 0, .int .i64 11] 32)
        have N3 := N2.then0 D2
        have oA := N3.1
        have sB := (IsNew.fresh w2 [⟨3, rd, rd, 0, 11⟩] _ rfl 1 rfl (by omega)).1.sl
        have one1 := icells_one [⟨3, rd, rd, 0, 11⟩]
        have b1 : (constG f rd (n / 2048)).length + 1 ≤ maxLen := by unfold maxLen; omega
        have b2 : ((constG f rd (n / 2048)).length + 1) * 40 ≤ 140737488355328 := by omega
        obtain ⟨hi0, hz0, hz1, hz2⟩ := HI.out
        generalize hG : constG f rd (n / 2048) = G at *
        have HG := Lib.hid hG
        have H3 := Lib.hid N3
        clear N2 N3 D2 hG
        go_wp2_with (at_builtin; go_must (refine wpList_app rfl _ _ 23 rfl i0 _ 40 Try.underlying23 hi0 hz0 hz1 hz2 rfl rfl oA _ 1 _ rfl sB one1 b1 b2 ?_))
        intro v4 w4 o4 g4 _
        have N4 := H3.out.appd (m := [⟨3, rd, rd, 0, 11⟩]) (by simpa using o4) g4
        obtain ⟨p4, c4, e⟩ := N4.1.form
        subst e
        have H4 := Lib.hid N4
        clear N4 o4 g4 oA sB one1 b1 b2 H3 hi0 hz0 hz1 hz2
        by_cases hz : r = 0
        · have q0 : (r != 0) = false := by simp [hz]
          have HZ := Lib.hid hz
          clear hz
          go_wp2_with fail
          go_ret
          refine ⟨_, rfl, ?_⟩
          have e : constG (f + 1) rd n = G ++ [(⟨3, rd, rd, 0, 11⟩ : In)] := by
            rw [constG, if_neg HS.out, HG.out, HRR.out, if_pos HZ.out]
          rw [e]
          exact H4.out
        · have q0 : (r != 0) = true := by simp [hz]
          have HZ := Lib.hid hz
          clear hz
          have N5 := H4.out.then0 ((Chg.refl NoB w4).alloc (.cells #[.int .i64 2, .int .i64 rd, .int .i64 rd, .int .i64 0, .int .i64 r] 32))
          have oA := N5.1
          have sB := (IsNew.fresh w4 [⟨2, rd, rd, 0, r⟩] _ rfl 1 rfl (by omega)).1.sl
          have one1 := icells_one [⟨2, rd, rd, 0, r⟩]
          have b1 : (G ++ [(⟨3, rd, rd, 0, 11⟩ : In)]).length + 1 ≤ maxLen := by unfold maxLen; simp; omega
          have b2 : ((G ++ [(⟨3, rd, rd, 0, 11⟩ : In)]).length + 1) * 40 ≤ 140737488355328 := by simp; omega
          obtain ⟨hi0, hz0, hz1, hz2⟩ := HI.out
          generalize hG2 : G ++ [(⟨3, rd, rd, 0, 11⟩ : In)] = G2 at *
          have HG2 := Lib.hid hG2
          have H5 := Lib.hid N5
          clear hG2 N5 H4
          go_wp2_with (at_builtin; go_must (refine wpList_app rfl _ _ 23 rfl i0 _ 40 Try.underlying23 hi0 hz0 hz1 hz2 rfl rfl oA _ 1 _ rfl sB one1 b1 b2 ?_))
          intro v6 w6 o6 g6 _
          have N6 := H5.out.appd (m := [⟨2, rd, rd, 0, r⟩]) (by simpa using o6) g6
          have H6 := Lib.hid N6
          clear N6 o6 g6 oA sB one1 b1 b2 H5 hi0 hz0 hz1 hz2
          go_wp2_with fail
          go_ret
          refine ⟨_, rfl, ?_⟩
          have e : constG (f + 1) rd n = G2 ++ [⟨2, rd, rd, 0, r⟩] := by
            rw [constG, if_neg HS.out, HG.out, HRR.out, if_neg HZ.out, ← HG2.out]; simp
          rw [e]
          exact H6.out
end Go.Proofs.Ytdkplhdinklflaa
