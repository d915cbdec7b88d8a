/- Words filled and summed. No condition. -/
import Derived.Test.YtdkplhdinklflaaBuild9
import Derived.Test.YtdkplhdinklflaaBuild13
import Derived.Test.YtdkplhdinklflaaBuild14
set_option linter.unusedVariables false
namespace Go.Proofs.Ytdkplhdinklflaa
open Go.RowKit Go.RR

def fillL (base imm : Int) (n : Nat) (rs : Int) : List In := (placesL imm n).map fun a => ⟨29, 0, base, rs, a⟩
theorem fillL_succ (base imm : Int) (n : Nat) (rs : Int) : fillL base imm (n + 1) rs = fillL base imm n rs ++ [⟨29, 0, base, rs, imm + 8 * (n : Int)⟩] := by unfold fillL; rw [placesL_succ, List.map_append]; rfl
theorem fillL_len (base imm : Int) (n : Nat) (rs : Int) : (fillL base imm n rs).length = n := by unfold fillL; rw [List.length_map, placesL_len]
def fillF (base imm n rs : Int) : List In := if (placesB base imm n && regB rs) = true then fillL base imm n.toNat rs else []
theorem fillF_no {base imm n rs : Int} (h : placesB base imm n = false ∨ regB rs = false) : fillF base imm n rs = [] := by
  unfold fillF
  rw [if_neg]
  rcases h with h | h <;> simp [h]
theorem fillF_yes {base imm n rs : Int} (h1 : placesB base imm n = true) (h2 : regB rs = true) : fillF base imm n rs = fillL base imm n.toNat rs := by
  unfold fillF
  rw [if_pos]
  simp [h1, h2]
theorem placesB_n {base imm n : Int} (h : placesB base imm n = true) : 0 ≤ n ∧ n ≤ 200 := by
  unfold placesB at h
  simp only [Bool.and_eq_true, decide_eq_true_eq] at h
  exact ⟨h.1.1.1.2, h.1.1.2⟩
theorem placesF_yes {base imm n : Int} (h : placesB base imm n = true) : placesF base imm n = placesL imm n.toNat := by unfold placesF; rw [if_pos h]


set_option maxHeartbeats 4000000 in
set_option maxRecDepth 100000 in
theorem fill_any (base imm n rs : Int) (w : World) (hb : -9223372036854775808 ≤ n ∧ n ≤ 9223372036854775807) : Calls Try.prog 27 #[.int .i64 base, .int .i64 imm, .int .i64 n, .int .i64 rs] w (RetSl fun x w' => IsNew w w' x (fillF base imm n rs)) := by
  obtain ⟨i0, hi0, hz0, hz1, hz2⟩ := info_parts INinfo
  have HI := Lib.hid (And.intro hi0 (And.intro hz0 (And.intro hz1 hz2)))
  clear hi0 hz0 hz1 hz2
  go_enter Try.func27, Try.ntmps27
  go_wp2_with fail
  -- the places: words_any; in the second case k of them, all read by HCELL
  refine (words_any base imm n _ hb).mono ?_
  rintro e w1 ⟨v1, rfl, O1, C1⟩
  obtain ⟨p1, c1, e⟩ := O1.form
  subst e
  have HC1 := Lib.hid C1
  obtain ⟨b1, h1⟩ : ∃ x, placesB base imm n = x := ⟨_, rfl⟩
  have H1 := Lib.hid h1
  rw [h1]
  cases b1
  · clear C1 O1 h1
    go_wp2_with fail
    go_ret
    exact ⟨_, rfl, by rw [fillF_no (.inl H1.out)]; exact ⟨Own.nil _ _ _ _, HC1.out⟩⟩
  · obtain ⟨n0, n200⟩ := placesB_n h1
    rw [placesF_yes h1] at O1 ⊢
    obtain ⟨k, rfl⟩ := Int.eq_ofNat_of_zero_le n0
    rw [Int.toNat_natCast] at O1 ⊢
    rw [placesL_len] at O1 ⊢
    have hk : k ≤ 200 := by omega
    have HO1 := Lib.hid O1
    clear C1 O1 h1 n0 n200 hb
    obtain ⟨b2, h2⟩ : ∃ x, regB rs = x := ⟨_, rfl⟩
    have H2 := Lib.hid h2
    clear h2
    go_wp2_with fail
    refine (reg0_any rs _).mono ?_
    rintro e w' ⟨rfl, rfl⟩
    rw [H2.out]
    cases b2
    ·
      go_wp2_with fail
      go_ret
      exact ⟨_, rfl, by rw [fillF_no (.inr H2.out)]; exact ⟨Own.nil _ _ _ _, HC1.out⟩⟩
    · go_wp2_with fail
      go_loopg [11, 30] k (fun m nv ix wr => ∃ j : Nat, j + m = k ∧ ix = .int .i64 j ∧ IsNew w1 wr nv (fillL base imm j rs))
      case atStart => exact ⟨0, by omega, rfl, IsNew.nil _⟩
      case round =>
        obtain ⟨j, hj, rfl, hN⟩ := hrel
        have HJ := Lib.hid hj
        have hjl : j ≤ k := by omega
        have hC := hN.2
        clear hj
        by_cases hlt : j < k
        ·
          -- the place at number j: x0, y
          obtain ⟨g, of, cc, e, -, hg, hcc, hcell, -⟩ := (HO1.out.chg0 hC).spot (by omega)
          cases e
          have x0 := hcell j (.int .i64 (imm + 8 * (j : Int))) (by rw [List.getElem?_map, placesL_at imm k j hlt]; rfl)
          have j0 : (0 : Int) ≤ j := by omega
          obtain ⟨y, hy⟩ : ∃ y, imm + 8 * (j : Int) = y := ⟨_, rfl⟩
          rw [hy] at x0
          have HY := Lib.hid hy
          clear hcell hy
          have hln := fillL_len base imm j rs
          have hsc := fillL_succ base imm j rs
          generalize hF : fillL base imm j rs = F at *
          clear hF
          have HX := Lib.hid hsc
          obtain ⟨pa, ca, e⟩ := hN.1.form
          subst e
          have N3 := hN.then0 ((Chg.refl NoB wr).alloc (.cells #[.int .i64 29, .int .i64 0, .int .i64 base, .int .i64 rs, .int .i64 y] 32))
          have oA := N3.1
          have sB := (IsNew.fresh wr [⟨29, 0, base, rs, y⟩] _ rfl 1 rfl (by omega)).1.sl
          have one1 := icells_one [⟨29, 0, base, rs, y⟩]
          have b1 : F.length + 1 ≤ maxLen := by unfold maxLen; omega
          have b2 : (F.length + 1) * 40 ≤ 140737488355328 := by omega
          obtain ⟨hi0, hz0, hz1, hz2⟩ := HI.out
          have H3 := Lib.hid N3
          clear N3 hN hsc hC hln
          go_wp2_with (at_builtin; go_must (refine wpList_app rfl _ _ 23 rfl i0 _ 40 Try.underlying23 hi0 hz0 hz1 hz2 rfl rfl oA _ 1 _ rfl sB one1 b1 b2 ?_))
          intro v4 w4 o4 g4 _
          have N4 := H3.out.appd (m := [⟨29, 0, base, rs, y⟩]) (by simpa using o4) g4
          have H4 := Lib.hid N4
          clear N4 o4 g4 oA sB one1 b1 b2 H3 hi0 hz0 hz1 hz2 x0
          go_wp2_with fail
          go_roundg (k - (j + 1))
          case measure => have := HJ.out; omega
          case rel => exact ⟨j + 1, by have := HJ.out; omega, by go_num, by rw [HX.out, HY.out]; exact H4.out⟩
        · obtain rfl : j = k := by omega
          have HN := Lib.hid hN
          clear hN hC
          go_wp2_with fail
          go_ret
          exact ⟨_, rfl, by rw [fillF_yes H1.out H2.out, Int.toNat_natCast]; exact HN.out.from HC1.out⟩
end Go.Proofs.Ytdkplhdinklflaa
