/- Pieces of programs: Times, While, If. No condition. -/
import Derived.Test.YtdkplhdinklflaaBuild7
set_option linter.unusedVariables false
namespace Go.Proofs.Ytdkplhdinklflaa
open Go.RowKit Go.RR

/-- A slice that reads as a piece. -/
def PAt (w : World) (v : Value) (l : List In) : Prop := ∃ S : Nat → Prop, Sl w S 5 v l.length (icells l)
theorem PAt.chg0 {w w' : World} {v : Value} {l : List In} (h : PAt w v l) (c : Chg NoB w w') : PAt w' v l := by obtain ⟨S, hS⟩ := h; exact ⟨S, hS.chg0 c⟩
theorem PAt.form {w : World} {v : Value} {l : List In} (h : PAt w v l) : ∃ p c, v = .slice p l.length c := by obtain ⟨S, hS⟩ := h; exact hS.form
theorem IsNew.at {w0 w : World} {v : Value} {l : List In} (h : IsNew w0 w v l) : PAt w v l := ⟨_, h.1.sl⟩
theorem PAt.rows {w : World} {v : Value} {l : List In} {vs : List Value} {ls : List (List In)} (h : PAt w v l) (r : PRows w vs ls) : PRows w (v :: vs) (l :: ls) := by obtain ⟨S, hS⟩ := h; exact PRows.cons hS r

theorem seq_rows (vs : List Value) (ls : List (List In)) (w : World) (hr : PRows w vs ls) (b : Nat) (hb : w.heap.size = b) (n : Nat) (hn : vs.length = n) (h10 : n ≤ 10) (hl : ls.flatten.length ≤ 100000) :
    Calls Try.prog 18 #[.slice (some ⟨b, 0, none⟩) n n] (w.alloc (.cells vs.toArray 23)) (RetSl fun v' w' => IsNew w w' v' ls.flatten) := by
  subst hn hb
  have D := (Chg.refl NoB w).alloc (.cells vs.toArray 23)
  refine (seq_any _ _ vs ls _ (Sl.fresh w vs 23 vs.length (by simp)) (hr.chg0 D) (by omega) hl).mono ?_
  rintro e w' ⟨v, rfl, h⟩
  exact ⟨v, rfl, h.from D⟩
theorem join_rows (vs : List Value) (ls : List (List In)) (w : World) (hr : PRows w vs ls) (b : Nat) (hb : w.heap.size = b) (n : Nat) (hn : vs.length = n) (h10 : n ≤ 10) (hl : ls.flatten.length ≤ 100000) :
    Calls Try.prog 55 #[.slice (some ⟨b, 0, none⟩) n n] (w.alloc (.cells vs.toArray 23)) (RetSl fun v' w' => IsNew w w' v' (madeF ls.flatten)) := by
  subst hn hb
  have D := (Chg.refl NoB w).alloc (.cells vs.toArray 23)
  refine (join_any _ _ vs ls _ (Sl.fresh w vs 23 vs.length (by simp)) (hr.chg0 D) (by omega) hl).mono ?_
  rintro e w' ⟨v, rfl, h⟩
  exact ⟨v, rfl, h.from D⟩

def timesL (rd n : Int) (p : List In) : List In := constF rd n ++ (p ++ [⟨2, rd, rd, 0, -1⟩, ⟨16, 0, rd, 0, -(p.length : Int) - 1⟩])
def timesB (rd n : Int) (p : List In) : Bool := ownB rd && decide (1 ≤ n) && decide (n ≤ 1000000) && rightP p
def timesF (rd n : Int) (p : List In) : List In := if timesB rd n p = true then madeF (timesL rd n p) else []
theorem timesF_no {rd n : Int} {p : List In} (h : ownB rd = false ∨ n < 1 ∨ 1000000 < n ∨ rightP p = false) : timesF rd n p = [] := by
  unfold timesF timesB
  rw [if_neg]
  rcases h with h | h | h | h
  · simp [h]
  · have : ¬ 1 ≤ n := by omega
    simp [this]
  · have : ¬ n ≤ 1000000 := by omega
    simp [this]
  · simp [h]
theorem timesF_yes {rd n : Int} {p : List In} (h1 : ownB rd = true) (h2 : 1 ≤ n) (h3 : n ≤ 1000000) (h4 : rightP p = true) : timesF rd n p = madeF (timesL rd n p) := by
  unfold timesF timesB
  rw [if_pos]
  simp [h1, h2, h3, h4]
theorem constF_len (rd n : Int) : (constF rd n).length ≤ 13 := by
  unfold constF
  split
  · exact (constG_len rd 6 n).2
  · simp


set_option maxHeartbeats 2000000 in
set_option maxRecDepth 100000 in
theorem times_any (rd n : Int) (v : Value) (p : List In) (w : World) (hp : PAt w v p) (hl : p.length ≤ 1000) : Calls Try.prog 19 #[.int .i64 rd, .int .i64 n, v] w (RetSl fun x w' => IsNew w w' x (timesF rd n p)) := by
  obtain ⟨pp, pc, rfl⟩ := hp.form
  have HP := Lib.hid hp
  clear hp
  obtain ⟨b1, h1⟩ : ∃ x, ownB rd = x := ⟨_, rfl⟩
  have H1 := Lib.hid h1
  obtain ⟨b4, h4⟩ : ∃ x, rightP p = x := ⟨_, rfl⟩
  have H4 := Lib.hid h4
  clear h1 h4
  go_enter Try.func19, Try.ntmps19
  go_wp2_with fail
  refine (own_any rd _).mono ?_
  rintro e w1 ⟨rfl, rfl⟩
  rw [H1.out]
  cases b1
  ·
    go_wp2_with fail
    go_ret
    exact ⟨_, rfl, by rw [timesF_no (.inl H1.out)]; exact ⟨Own.nil _ _ _ _, Chg.refl _ _⟩⟩
  · by_cases h2 : n < 1
    · have t2 : decide (n < 1) = true := by simp; omega
      have H2 := Lib.hid h2
      clear h2
      go_wp2_with fail
      go_ret
      exact ⟨_, rfl, by rw [timesF_no (.inr (.inl H2.out))]; exact ⟨Own.nil _ _ _ _, Chg.refl _ _⟩⟩
    · have t2 : decide (n < 1) = false := by simp; omega
      by_cases h3 : 1000000 < n
      · have t3 : decide (1000000 < n) = true := by simp; omega
        have H3 := Lib.hid h3
        clear h2 h3
        go_wp2_with fail
        go_ret
        exact ⟨_, rfl, by rw [timesF_no (.inr (.inr (.inl H3.out)))]; exact ⟨Own.nil _ _ _ _, Chg.refl _ _⟩⟩
      · have t3 : decide (1000000 < n) = false := by simp; omega
        have n0 : 1 ≤ n := by omega
        have n1 : n ≤ 1000000 := by omega
        clear h2 h3
        go_wp2_with fail
        refine (bright_any _ _ p _ HP.out.choose_spec (by omega)).mono ?_
        rintro e w1 ⟨rfl, C1⟩
        rw [H4.out]
        have HC1 := Lib.hid C1
        clear C1
        cases b4
        ·
          go_wp2_with fail
          go_ret
          exact ⟨_, rfl, by rw [timesF_no (.inr (.inr (.inr H4.out)))]; exact ⟨Own.nil _ _ _ _, HC1.out⟩⟩
        · have B := IsNew.fresh w1 [⟨2, rd, rd, 0, -1⟩, ⟨16, 0, rd, 0, -(p.length : Int) - 1⟩] _ rfl 2 rfl (by omega)
          have HB := Lib.hid B
          have hs : sgn n = n := by unfold sgn; rw [if_pos (by omega)]
          have HS := Lib.hid hs
          have hu : n < U64 := by unfold U64; omega
          have HU := Lib.hid hu
          clear B hs hu
          go_wp2_with fail
          refine (const_any rd n _ (by omega) HU.out).mono ?_
          rintro e w2 ⟨v2, rfl, N2⟩
          rw [HS.out] at N2
          obtain ⟨p2, c2, e⟩ := N2.1.form
          subst e
          have HN2 := Lib.hid N2
          have hlen := constF_len rd n
          clear N2
          go_wp2_with fail
          have hR := HN2.out.at.rows (((HP.out.chg0 HC1.out).chg0 (HB.out.2.step HN2.out.2)).rows ((HB.out.at.chg0 HN2.out.2).rows (PRows.nil _)))
          refine (seq_rows _ _ _ hR _ rfl 3 rfl (by omega) (by simp; omega)).mono ?_
          rintro e w3 ⟨v3, rfl, N3⟩
          have HN3 := Lib.hid (show IsNew w2 w3 v3 (timesL rd n p) by simpa [timesL] using N3)
          clear N3 hR
          go_wp2_with fail
          refine (made_any _ _ _ _ HN3.out (by unfold timesL; simp; omega)).mono ?_
          rintro e w4 ⟨v4, rfl, N4⟩
          have HN4 := Lib.hid N4
          clear N4
          go_wp2_with fail
          go_ret
          exact ⟨_, rfl, by rw [timesF_yes H1.out n0 n1 H4.out]; exact HN4.out.from ((HC1.out.step HB.out.2).step HN2.out.2)⟩

set_option maxHeartbeats 2000000 in
set_option maxRecDepth 100000 in
theorem rtimes_any (rd n : Int) (v : Value) (p : List In) (w : World) (hp : PAt w v p) (hl : p.length ≤ 1000) : Calls Try.prog 20 #[.int .i64 rd, .int .i64 n, v] w (RetSl fun x w' => IsNew w w' x (timesF rd n p)) := by
  obtain ⟨pp, pc, rfl⟩ := hp.form
  have HP := Lib.hid hp
  clear hp
  obtain ⟨b4, h4⟩ : ∃ x, rightP p = x := ⟨_, rfl⟩
  have H4 := Lib.hid h4
  clear h4
  by_cases h1 : rd < 1
  · have t1 : decide (rd < 1) = true := by simp; omega
    have H1 := Lib.hid h1
    clear h1
    go_enter Try.func20, Try.ntmps20
    go_wp2_with fail
    go_ret
    exact ⟨_, rfl, by rw [timesF_no (.inl (ownB_no (.inl H1.out)))]; exact ⟨Own.nil _ _ _ _, Chg.refl _ _⟩⟩
  · have t1 : decide (rd < 1) = false := by simp; omega
    by_cases h1' : 15 < rd
    · have t1' : decide (15 < rd) = true := by simp; omega
      have H1 := Lib.hid h1'
      clear h1 h1'
      go_enter Try.func20, Try.ntmps20
      go_wp2_with fail
      go_ret
      exact ⟨_, rfl, by rw [timesF_no (.inl (ownB_no (.inr H1.out)))]; exact ⟨Own.nil _ _ _ _, Chg.refl _ _⟩⟩
    · have t1' : decide (15 < rd) = false := by simp; omega
      have H1 := Lib.hid (ownB_yes (n := rd) (by omega) (by omega))
      clear h1 h1'
      by_cases h2 : n < 1
      · have t2 : decide (n ≤ 0) = true := by simp; omega
        have H2 := Lib.hid h2
        clear h2
        go_enter Try.func20, Try.ntmps20
        go_wp2_with fail
        go_ret
        exact ⟨_, rfl, by rw [timesF_no (.inr (.inl H2.out))]; exact ⟨Own.nil _ _ _ _, Chg.refl _ _⟩⟩
      · have t2 : decide (n ≤ 0) = false := by simp; omega
        by_cases h3 : 1000000 < n
        · have t3 : decide (1000000 < n) = true := by simp; omega
          have H3 := Lib.hid h3
          clear h2 h3
          go_enter Try.func20, Try.ntmps20
          go_wp2_with fail
          go_ret
          exact ⟨_, rfl, by rw [timesF_no (.inr (.inr (.inl H3.out)))]; exact ⟨Own.nil _ _ _ _, Chg.refl _ _⟩⟩
        · have t3 : decide (1000000 < n) = false := by simp; omega
          have n0 : 1 ≤ n := by omega
          have n1 : n ≤ 1000000 := by omega
          clear h2 h3
          go_enter Try.func20, Try.ntmps20
          go_wp2_with fail
          refine (rright39_any _ _ p _ HP.out.choose_spec (by omega)).mono ?_
          rintro e w1 ⟨rfl, C1⟩
          rw [H4.out]
          have HC1 := Lib.hid C1
          clear C1
          cases b4
          ·
            go_wp2_with fail
            go_ret
            exact ⟨_, rfl, by rw [timesF_no (.inr (.inr (.inr H4.out)))]; exact ⟨Own.nil _ _ _ _, HC1.out⟩⟩
          · have hs : sgn n = n := by unfold sgn; rw [if_pos (by omega)]
            have HS := Lib.hid hs
            have hu : n < U64 := by unfold U64; omega
            have HU := Lib.hid hu
            clear hs hu
            go_wp2_with fail
            refine (rconst_any rd n _ (by omega) HU.out).mono ?_
            rintro e w2 ⟨v2, rfl, N2⟩
            rw [HS.out] at N2
            obtain ⟨p2, c2, e⟩ := N2.1.form
            subst e
            have HN2 := Lib.hid N2
            have hlen := constF_len rd n
            clear N2
            go_wp2_with fail
            refine (one_any _ _ _ _ _ _).mono ?_
            rintro e w3 ⟨v3, rfl, N3⟩
            obtain ⟨p3, c3, e⟩ := N3.1.form
            subst e
            have HN3 := Lib.hid N3
            clear N3
            go_wp2_with fail
            refine (one_any _ _ _ _ _ _).mono ?_
            rintro e w4 ⟨v4, rfl, N4⟩
            obtain ⟨p4, c4, e⟩ := N4.1.form
            subst e
            have HN4 := Lib.hid N4
            clear N4
            go_wp2_with fail
            have C34 := HN3.out.2.step HN4.out.2
            have hR := (HN2.out.at.chg0 C34).rows (((HP.out.chg0 HC1.out).chg0 (HN2.out.2.step C34)).rows ((HN3.out.at.chg0 HN4.out.2).rows (HN4.out.at.rows (PRows.nil _))))
            refine (join_rows _ _ _ hR _ rfl 4 rfl (by omega) (by simp; omega)).mono ?_
            rintro e w5 ⟨v5, rfl, N5⟩
            have hTL : timesL rd n p = [constF rd n, p, [⟨2, rd, rd, 0, -1⟩], [⟨16, 0, rd, 0, -1 - (p.length : Int)⟩]].flatten := by
              unfold timesL
              rw [show (-1 - (p.length : Int)) = -(p.length : Int) - 1 by omega]
              simp
            have HN5 := Lib.hid (show IsNew w4 w5 v5 (madeF (timesL rd n p)) by rw [hTL]; exact N5)
            clear N5 hR C34 hTL
            go_wp2_with fail
            go_ret
            exact ⟨_, rfl, by rw [timesF_yes H1.out n0 n1 H4.out]; exact HN5.out.from ((HC1.out.step HN2.out.2).step (HN3.out.2.step HN4.out.2))⟩
end Go.Proofs.Ytdkplhdinklflaa
