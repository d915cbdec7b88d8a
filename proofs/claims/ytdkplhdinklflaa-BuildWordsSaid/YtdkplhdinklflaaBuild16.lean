/- Words filled by the reference, and summed. No condition. -/
import Derived.Test.YtdkplhdinklflaaBuild15
set_option linter.unusedVariables false
namespace Go.Proofs.Ytdkplhdinklflaa
open Go.RowKit Go.RR


set_option maxHeartbeats 4000000 in
set_option maxRecDepth 100000 in
theorem rfill_any (base imm n rs : Int) (w : World) (hb : -9223372036854775808 ≤ n ∧ n ≤ 9223372036854775807) : Calls Try.prog 28 #[.int .i64 base, .int .i64 imm, .int .i64 n, .int .i64 rs] w (RetSl fun x w' => IsNew w w' x (fillF base imm n rs)) := by
  obtain ⟨i0, hi0, hz0, hz1, hz2⟩ := info_parts INinfo
  have HI := Lib.hid (And.intro hi0 (And.intro hz0 (And.intro hz1 hz2)))
  clear hi0 hz0 hz1 hz2
  go_enter Try.func28, Try.ntmps28
  go_wp2_with fail
  -- the places: places_any; in the second case k of them, all read by HCELL
  refine (places_any base imm n _ hb).mono ?_
  rintro e w1 ⟨v1, rfl, O1, C1⟩
  obtain ⟨p1, c1, e⟩ := O1.form
  subst e
  have HC1 := Lib.hid C1
  obtain ⟨b1, h1⟩ : ∃ x, placesB base imm n = x := ⟨_, rfl⟩
  have H1 := Lib.hid h1
  rw [h1]
  cases b1
  · clear C1 O1 h1
    go_wp2_with fail
    go_ret
    exact ⟨_, rfl, by rw [fillF_no (.inl H1.out)]; exact ⟨Own.nil _ _ _ _, HC1.out⟩⟩
  · obtain ⟨n0, n200⟩ := placesB_n h1
    rw [placesF_yes h1] at O1 ⊢
    obtain ⟨k, rfl⟩ := Int.eq_ofNat_of_zero_le n0
    rw [Int.toNat_natCast] at O1 ⊢
    rw [placesL_len] at O1 ⊢
    have hk : k ≤ 200 := by omega
    have HO1 := Lib.hid O1
    clear C1 O1 h1 n0 n200 hb
    by_cases h2 : rs < 0
    · have t2 : decide (rs < 0) = true := by simp; omega
      have H2 := Lib.hid (show regB rs = false by unfold regB; simp; omega)
      clear h2
      go_wp2_with fail
      go_ret
      exact ⟨_, rfl, by rw [fillF_no (.inr H2.out)]; exact ⟨Own.nil _ _ _ _, HC1.out⟩⟩
    · have t2 : decide (rs < 0) = false := by simp; omega
      by_cases h3 : 15 < rs
      · have t3 : decide (15 < rs) = true := by simp; omega
        have H2 := Lib.hid (show regB rs = false by unfold regB; simp; omega)
        clear h2 h3
        go_wp2_with fail
        go_ret
        exact ⟨_, rfl, by rw [fillF_no (.inr H2.out)]; exact ⟨Own.nil _ _ _ _, HC1.out⟩⟩
      · have t3 : decide (15 < rs) = false := by simp; omega
        have H2 := Lib.hid (show regB rs = true by unfold regB; simp; omega)
        clear h2 h3
        go_wp2_with fail
        go_loopg [11, 33] k (fun m nv ix wr => ∃ j : Nat, j + m = k ∧ ix = .int .i64 j ∧ IsNew w1 wr nv (fillL base imm j rs))
        case atStart => exact ⟨0, by omega, rfl, IsNew.nil _⟩
        case round =>
          obtain ⟨j, hj, rfl, hN⟩ := hrel
          have HJ := Lib.hid hj
          have hjl : j ≤ k := by omega
          have hC := hN.2
          clear hj
          by_cases hlt : j < k
          ·
            -- the place at number j: x0, y
            obtain ⟨g, of, cc, e, -, hg, hcc, hcell, -⟩ := (HO1.out.chg0 hC).spot (by omega)
            cases e
            have x0 := hcell j (.int .i64 (imm + 8 * (j : Int))) (by rw [List.getElem?_map, placesL_at imm k j hlt]; rfl)
            have j0 : (0 : Int) ≤ j := by omega
            obtain ⟨y, hy⟩ : ∃ y, imm + 8 * (j : Int) = y := ⟨_, rfl⟩
            rw [hy] at x0
            have HY := Lib.hid hy
            clear hcell hy
            have hln := fillL_len base imm j rs
            have hsc := fillL_succ base imm j rs
            generalize hF : fillL base imm j rs = F at *
            clear hF
            have HX := Lib.hid hsc
            obtain ⟨pa, ca, e⟩ := hN.1.form
            subst e
            have HN := Lib.hid hN
            have hfl : F.length ≤ 1000 := by omega
            clear hN hsc hC hln
            go_wp2_with fail
            refine (one_any _ _ _ _ _ _).mono ?_
            rintro e w2 ⟨v2, rfl, N2⟩
            obtain ⟨p2, c2, e⟩ := N2.1.form
            subst e
            have N3 := HN.out.then0 N2.2
            have sB := N2.1.sl
            clear N2 x0
            -- append of [⟨29, 0, base, rs, y⟩] (m of them) to F, in world $W with IsNew N3
            have oA := N3.1
            have one1 := icells_one [⟨29, 0, base, rs, y⟩]
            have b1 : F.length + 1 ≤ maxLen := by unfold maxLen; omega
            have b2 : (F.length + 1) * 40 ≤ 140737488355328 := by omega
            obtain ⟨hi0, hz0, hz1, hz2⟩ := HI.out
            have H3 := Lib.hid N3
            clear N3
            go_wp2_with (at_builtin; go_must (refine wpList_app rfl _ _ 23 rfl i0 _ 40 Try.underlying23 hi0 hz0 hz1 hz2 rfl rfl oA _ 1 _ rfl sB one1 b1 b2 ?_))
            intro v4 w4 o4 g4 _
            have N4 := H3.out.appd (m := [⟨29, 0, base, rs, y⟩]) (by simpa using o4) g4
            have H4 := Lib.hid N4
            clear N4 o4 g4 oA sB one1 b1 b2 H3 hi0 hz0 hz1 hz2
            go_wp2_with fail
            go_roundg (k - (j + 1))
            case measure => have := HJ.out; omega
            case rel => exact ⟨j + 1, by have := HJ.out; omega, by go_num, by rw [HX.out, HY.out]; exact H4.out⟩
          · obtain rfl : j = k := by omega
            have HN := Lib.hid hN
            clear hN hC
            go_wp2_with fail
            go_ret
            exact ⟨_, rfl, by rw [fillF_yes H1.out H2.out, Int.toNat_natCast]; exact HN.out.from HC1.out⟩

def sumL (rd t base imm : Int) (n : Nat) : List In := ⟨1, rd, 0, 0, 0⟩ :: (placesL imm n).flatMap fun a => [⟨22, t, base, 0, a⟩, ⟨4, rd, rd, t, 0⟩]
theorem sumL_succ (rd t base imm : Int) (n : Nat) : sumL rd t base imm (n + 1) = sumL rd t base imm n ++ [⟨22, t, base, 0, imm + 8 * (n : Int)⟩, ⟨4, rd, rd, t, 0⟩] := by unfold sumL; rw [placesL_succ, List.flatMap_append]; simp
theorem sumL_len (rd t base imm : Int) (n : Nat) : (sumL rd t base imm n).length = 2 * n + 1 := by
  induction n with
  | zero => rfl
  | succ n ih => rw [sumL_succ, List.length_append, ih]; simp; omega
def sumF (rd t base imm n : Int) : List In := if (placesB base imm n && threeB rd t base) = true then sumL rd t base imm n.toNat else []
theorem sumF_no {rd t base imm n : Int} (h : placesB base imm n = false ∨ threeB rd t base = false) : sumF rd t base imm n = [] := by
  unfold sumF
  rw [if_neg]
  rcases h with h | h <;> simp [h]
theorem sumF_yes {rd t base imm n : Int} (h1 : placesB base imm n = true) (h2 : threeB rd t base = true) : sumF rd t base imm n = sumL rd t base imm n.toNat := by
  unfold sumF
  rw [if_pos]
  simp [h1, h2]
theorem unlike3 (a b c : Int) : unlikeB [a, b, c] = threeB a b c := by
  unfold unlikeB threeB
  rw [Bool.eq_iff_iff]
  simp only [List.nodup_cons, List.mem_cons, List.not_mem_nil, or_false, not_or, List.nodup_nil, not_false_eq_true, and_true, Bool.and_eq_true, decide_eq_true_eq, List.all_cons, List.all_nil, bne_iff_ne, ne_eq]
  constructor
  · rintro ⟨⟨⟨h1, h2⟩, h3⟩, h4, h5, h6⟩; exact ⟨⟨⟨⟨⟨h4, h5⟩, h6⟩, h1⟩, h3⟩, h2⟩
  · rintro ⟨⟨⟨⟨⟨h4, h5⟩, h6⟩, h1⟩, h3⟩, h2⟩; exact ⟨⟨⟨h1, h2⟩, h3⟩, h4, h5, h6⟩

set_option maxHeartbeats 4000000 in
set_option maxRecDepth 100000 in
theorem sum_any (rd t base imm n : Int) (w : World) (hb : -9223372036854775808 ≤ n ∧ n ≤ 9223372036854775807) : Calls Try.prog 29 #[.int .i64 rd, .int .i64 t, .int .i64 base, .int .i64 imm, .int .i64 n] w (RetSl fun x w' => IsNew w w' x (sumF rd t base imm n)) := by
  obtain ⟨i0, hi0, hz0, hz1, hz2⟩ := info_parts INinfo
  have HI := Lib.hid (And.intro hi0 (And.intro hz0 (And.intro hz1 hz2)))
  clear hi0 hz0 hz1 hz2
  go_enter Try.func29, Try.ntmps29
  go_wp2_with fail
  -- the places: words_any; in the second case k of them, all read by HCELL
  refine (words_any base imm n _ hb).mono ?_
  rintro e w1 ⟨v1, rfl, O1, C1⟩
  obtain ⟨p1, c1, e⟩ := O1.form
  subst e
  have HC1 := Lib.hid C1
  obtain ⟨b1, h1⟩ : ∃ x, placesB base imm n = x := ⟨_, rfl⟩
  have H1 := Lib.hid h1
  rw [h1]
  cases b1
  · clear C1 O1 h1
    go_wp2_with fail
    go_ret
    exact ⟨_, rfl, by rw [sumF_no (.inl H1.out)]; exact ⟨Own.nil _ _ _ _, HC1.out⟩⟩
  · obtain ⟨n0, n200⟩ := placesB_n h1
    rw [placesF_yes h1] at O1 ⊢
    obtain ⟨k, rfl⟩ := Int.eq_ofNat_of_zero_le n0
    rw [Int.toNat_natCast] at O1 ⊢
    rw [placesL_len] at O1 ⊢
    have hk : k ≤ 200 := by omega
    have HO1 := Lib.hid O1
    clear C1 O1 h1 n0 n200 hb
    obtain ⟨b2, h2⟩ : ∃ x, threeB rd t base = x := ⟨_, rfl⟩
    have H2 := Lib.hid h2
    clear h2
    go_wp2_with fail
    refine (three_any rd t base _).mono ?_
    rintro e w' ⟨rfl, rfl⟩
    rw [H2.out]
    cases b2
    ·
      go_wp2_with fail
      go_ret
      exact ⟨_, rfl, by rw [sumF_no (.inr H2.out)]; exact ⟨Own.nil _ _ _ _, HC1.out⟩⟩
    · have N0 := Lib.hid (IsNew.fresh w1 (sumL rd t base imm 0) _ rfl 1 rfl (by omega))
      go_wp2_with fail
      go_loopg [13, 37] k (fun m nv ix wr => ∃ j : Nat, j + m = k ∧ ix = .int .i64 j ∧ IsNew w1 wr nv (sumL rd t base imm j))
      case atStart => exact ⟨0, by omega, rfl, N0.out⟩
      case round =>
        obtain ⟨j, hj, rfl, hN⟩ := hrel
        have HJ := Lib.hid hj
        have hjl : j ≤ k := by omega
        have hC := hN.2
        clear hj
        by_cases hlt : j < k
        ·
          -- the place at number j: x0, y
          obtain ⟨g, of, cc, e, -, hg, hcc, hcell, -⟩ := (HO1.out.chg0 hC).spot (by omega)
          cases e
          have x0 := hcell j (.int .i64 (imm + 8 * (j : Int))) (by rw [List.getElem?_map, placesL_at imm k j hlt]; rfl)
          have j0 : (0 : Int) ≤ j := by omega
          obtain ⟨y, hy⟩ : ∃ y, imm + 8 * (j : Int) = y := ⟨_, rfl⟩
          rw [hy] at x0
          have HY := Lib.hid hy
          clear hcell hy
          have hln := sumL_len rd t base imm j
          have hsc := sumL_succ rd t base imm j
          generalize hF : sumL rd t base imm j = F at *
          clear hF
          have HX := Lib.hid hsc
          obtain ⟨pa, ca, e⟩ := hN.1.form
          subst e
          have N3 := hN.then0 ((Chg.refl NoB wr).alloc (.cells #[.int .i64 22, .int .i64 t, .int .i64 base, .int .i64 0, .int .i64 y, .int .i64 4, .int .i64 rd, .int .i64 rd, .int .i64 t, .int .i64 0] 32))
          have sB := (IsNew.fresh wr [⟨22, t, base, 0, y⟩, ⟨4, rd, rd, t, 0⟩] _ rfl 2 rfl (by omega)).1.sl
          have HLN := Lib.hid hln
          have hfl : F.length ≤ 1000 := by omega
          clear hN hsc hC hln
          -- append of [⟨22, t, base, 0, y⟩, ⟨4, rd, rd, t, 0⟩] (m of them) to F, in world $W with IsNew N3
          have oA := N3.1
          have one1 := icells_one [⟨22, t, base, 0, y⟩, ⟨4, rd, rd, t, 0⟩]
          have b1 : F.length + 2 ≤ maxLen := by unfold maxLen; omega
          have b2 : (F.length + 2) * 40 ≤ 140737488355328 := by omega
          obtain ⟨hi0, hz0, hz1, hz2⟩ := HI.out
          have H3 := Lib.hid N3
          clear N3
          go_wp2_with (at_builtin; go_must (refine wpList_app rfl _ _ 23 rfl i0 _ 40 Try.underlying23 hi0 hz0 hz1 hz2 rfl rfl oA _ 2 _ rfl sB one1 b1 b2 ?_))
          intro v4 w4 o4 g4 _
          have N4 := H3.out.appd (m := [⟨22, t, base, 0, y⟩, ⟨4, rd, rd, t, 0⟩]) (by simpa using o4) g4
          have H4 := Lib.hid N4
          clear N4 o4 g4 oA sB one1 b1 b2 H3 hi0 hz0 hz1 hz2
          clear x0
          go_wp2_with fail
          go_roundg (k - (j + 1))
          case measure => have := HJ.out; omega
          case rel => exact ⟨j + 1, by have := HJ.out; omega, by go_num, by rw [HX.out, HY.out]; exact H4.out⟩
        · obtain rfl : j = k := by omega
          have HN := Lib.hid hN
          clear hN hC
          go_wp2_with fail
          go_ret
          exact ⟨_, rfl, by rw [sumF_yes H1.out H2.out, Int.toNat_natCast]; exact HN.out.from HC1.out⟩

set_option maxHeartbeats 4000000 in
set_option maxRecDepth 100000 in
theorem rsum_any (rd t base imm n : Int) (w : World) (hb : -9223372036854775808 ≤ n ∧ n ≤ 9223372036854775807) : Calls Try.prog 30 #[.int .i64 rd, .int .i64 t, .int .i64 base, .int .i64 imm, .int .i64 n] w (RetSl fun x w' => IsNew w w' x (sumF rd t base imm n)) := by
  obtain ⟨i0, hi0, hz0, hz1, hz2⟩ := info_parts INinfo
  have HI := Lib.hid (And.intro hi0 (And.intro hz0 (And.intro hz1 hz2)))
  clear hi0 hz0 hz1 hz2
  go_enter Try.func30, Try.ntmps30
  go_wp2_with fail
  -- the places: places_any; in the second case k of them, all read by HCELL
  refine (places_any base imm n _ hb).mono ?_
  rintro e w1 ⟨v1, rfl, O1, C1⟩
  obtain ⟨p1, c1, e⟩ := O1.form
  subst e
  have HC1 := Lib.hid C1
  obtain ⟨b1, h1⟩ : ∃ x, placesB base imm n = x := ⟨_, rfl⟩
  have H1 := Lib.hid h1
  rw [h1]
  cases b1
  · clear C1 O1 h1
    go_wp2_with fail
    go_ret
    exact ⟨_, rfl, by rw [sumF_no (.inl H1.out)]; exact ⟨Own.nil _ _ _ _, HC1.out⟩⟩
  · obtain ⟨n0, n200⟩ := placesB_n h1
    rw [placesF_yes h1] at O1 ⊢
    obtain ⟨k, rfl⟩ := Int.eq_ofNat_of_zero_le n0
    rw [Int.toNat_natCast] at O1 ⊢
    rw [placesL_len] at O1 ⊢
    have hk : k ≤ 200 := by omega
    have HO1 := Lib.hid O1
    clear C1 O1 h1 n0 n200 hb
    obtain ⟨b2, h2⟩ : ∃ x, threeB rd t base = x := ⟨_, rfl⟩
    have H2 := Lib.hid h2
    clear h2
    have SU := Lib.hid (Sl.fresh (size := 1) w1 (([rd, t, base] : List Int).map (Value.int .i64)) 3 3 rfl)
    have CU := Lib.hid ((Chg.refl NoB w1).alloc (.cells #[.int .i64 rd, .int .i64 t, .int .i64 base] 3))
    go_wp2_with fail
    refine (unlike_any _ _ [rd, t, base] _ SU.out (by simp)).mono ?_
    rintro e w' ⟨rfl, rfl⟩
    rw [unlike3, H2.out]
    cases b2
    ·
      go_wp2_with fail
      go_ret
      exact ⟨_, rfl, by rw [sumF_no (.inr H2.out)]; exact ⟨Own.nil _ _ _ _, HC1.out.step CU.out⟩⟩
    · go_wp2_with fail
      refine (one_any _ _ _ _ _ _).mono ?_
      rintro e w2 ⟨v2, rfl, N2⟩
      have N0 := Lib.hid (show IsNew w1 w2 v2 (sumL rd t base imm 0) from N2.from CU.out)
      clear N2
      go_wp2_with fail
      go_loopg [13, 38] k (fun m nv ix wr => ∃ j : Nat, j + m = k ∧ ix = .int .i64 j ∧ IsNew w1 wr nv (sumL rd t base imm j))
      case atStart => exact ⟨0, by omega, rfl, N0.out⟩
      case round =>
        obtain ⟨j, hj, rfl, hN⟩ := hrel
        have HJ := Lib.hid hj
        have hjl : j ≤ k := by omega
        have hC := hN.2
        clear hj
        by_cases hlt : j < k
        ·
          -- the place at number j: x0, y
          obtain ⟨g, of, cc, e, -, hg, hcc, hcell, -⟩ := (HO1.out.chg0 hC).spot (by omega)
          cases e
          have x0 := hcell j (.int .i64 (imm + 8 * (j : Int))) (by rw [List.getElem?_map, placesL_at imm k j hlt]; rfl)
          have j0 : (0 : Int) ≤ j := by omega
          obtain ⟨y, hy⟩ : ∃ y, imm + 8 * (j : Int) = y := ⟨_, rfl⟩
          rw [hy] at x0
          have HY := Lib.hid hy
          clear hcell hy
          have hln := sumL_len rd t base imm j
          have hsc := sumL_succ rd t base imm j
          generalize hF : sumL rd t base imm j = F at *
          clear hF
          have HX := Lib.hid hsc
          obtain ⟨pa, ca, e⟩ := hN.1.form
          subst e
          have HLN := Lib.hid hln
          have hfl : F.length ≤ 1000 := by omega
          have HN := Lib.hid hN
          clear hN hsc hC hln
          go_wp2_with fail
          refine (one_any _ _ _ _ _ _).mono ?_
          rintro e w2 ⟨v2, rfl, N2⟩
          obtain ⟨p2, c2, e⟩ := N2.1.form
          subst e
          have N3 := HN.out.then0 N2.2
          have sB := N2.1.sl
          clear N2 x0
          -- append of [⟨22, t, base, 0, y⟩] (m of them) to F, in world $W with IsNew N3
          have oA := N3.1
          have one1 := icells_one [⟨22, t, base, 0, y⟩]
          have b1 : F.length + 1 ≤ maxLen := by unfold maxLen; omega
          have b2 : (F.length + 1) * 40 ≤ 140737488355328 := by omega
          obtain ⟨hi0, hz0, hz1, hz2⟩ := HI.out
          have H3 := Lib.hid N3
          clear N3
          go_wp2_with (at_builtin; go_must (refine wpList_app rfl _ _ 23 rfl i0 _ 40 Try.underlying23 hi0 hz0 hz1 hz2 rfl rfl oA _ 1 _ rfl sB one1 b1 b2 ?_))
          intro v4 w4 o4 g4 _
          have N4 := H3.out.appd (m := [⟨22, t, base, 0, y⟩]) (by simpa using o4) g4
          have H4 := Lib.hid N4
          clear N4 o4 g4 oA sB one1 b1 b2 H3 hi0 hz0 hz1 hz2
          have hF2 : (F ++ [(⟨22, t, base, 0, y⟩ : In)]).length ≤ 1001 := by simp; omega
          obtain ⟨p5, c5, e⟩ := H4.out.1.form
          subst e
          have H5 := Lib.hid H4.out
          have HX2 := Lib.hid (show F ++ [⟨22, t, base, 0, y⟩, ⟨4, rd, rd, t, 0⟩] = (F ++ [(⟨22, t, base, 0, y⟩ : In)]) ++ [⟨4, rd, rd, t, 0⟩] by simp)
          clear H4
          generalize hG : F ++ [(⟨22, t, base, 0, y⟩ : In)] = G at *
          clear hG
          go_wp2_with fail
          refine (one_any _ _ _ _ _ _).mono ?_
          rintro e w6 ⟨v6, rfl, N6⟩
          obtain ⟨p6, c6, e⟩ := N6.1.form
          subst e
          have N3 := H5.out.then0 N6.2
          have sB := N6.1.sl
          obtain ⟨F0, hF0⟩ : ∃ F0, F0 = F := ⟨_, rfl⟩
          subst hF0
          obtain ⟨F, hFG⟩ : ∃ F, F = G := ⟨_, rfl⟩
          subst hFG
          clear N6
          -- append of [⟨4, rd, rd, t, 0⟩] (m of them) to F, in world $W with IsNew N3
          have oA := N3.1
          have one1 := icells_one [⟨4, rd, rd, t, 0⟩]
          have b1 : F.length + 1 ≤ maxLen := by unfold maxLen; omega
          have b2 : (F.length + 1) * 40 ≤ 140737488355328 := by omega
          obtain ⟨hi0, hz0, hz1, hz2⟩ := HI.out
          have H3 := Lib.hid N3
          clear N3
          go_wp2_with (at_builtin; go_must (refine wpList_app rfl _ _ 23 rfl i0 _ 40 Try.underlying23 hi0 hz0 hz1 hz2 rfl rfl oA _ 1 _ rfl sB one1 b1 b2 ?_))
          intro v4 w4 o4 g4 _
          have N4 := H3.out.appd (m := [⟨4, rd, rd, t, 0⟩]) (by simpa using o4) g4
          have H4 := Lib.hid N4
          clear N4 o4 g4 oA sB one1 b1 b2 H3 hi0 hz0 hz1 hz2
          go_wp2_with fail
          go_roundg (k - (j + 1))
          case measure => have := HJ.out; omega
          case rel => exact ⟨j + 1, by have := HJ.out; omega, by go_num, by rw [HX.out, HY.out, HX2.out]; exact H4.out⟩
        · obtain rfl : j = k := by omega
          have HN := Lib.hid hN
          clear hN hC
          go_wp2_with fail
          go_ret
          exact ⟨_, rfl, by rw [sumF_yes H1.out H2.out, Int.toNat_natCast]; exact HN.out.from HC1.out⟩
end Go.Proofs.Ytdkplhdinklflaa
