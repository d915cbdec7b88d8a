/- Pieces of programs: While, If. No condition. -/
import Derived.Test.YtdkplhdinklflaaBuild8
set_option linter.unusedVariables false
namespace Go.Proofs.Ytdkplhdinklflaa
open Go.RowKit Go.RR

def testB (o rs rt : Int) : Bool := decide (15 ≤ o) && (decide (o ≤ 17) && (decide (0 ≤ rs) && (decide (rs ≤ 15) && (decide (0 ≤ rt) && decide (rt ≤ 15)))))
theorem testB_eq (o rs rt : Int) : testB o rs rt = (branchB o && (regB rs && regB rt)) := by
  have h1 : branchB o = (decide (15 ≤ o) && decide (o ≤ 17)) := by
    unfold branchB
    rw [Bool.eq_iff_iff]; simp; omega
  have h2 : ∀ r : Int, regB r = (decide (0 ≤ r) && decide (r ≤ 15)) := fun r => by
    unfold regB
    rw [Bool.eq_iff_iff]; simp; omega
  rw [h1, h2, h2]
  unfold testB
  simp only [Bool.and_assoc]
theorem test_any (o rs rt : Int) (w : World) : Calls Try.prog 70 #[.int .i64 o, .int .i64 rs, .int .i64 rt] w fun e w' => e = .returned (.bool (testB o rs rt)) ∧ w = w' := by
  unfold testB
  cases t1 : decide (15 ≤ o)
  ·
    go_enter Try.func70, Try.ntmps70
    go_wp2
    go_ret
    exact ⟨rfl, rfl⟩
  · cases t2 : decide (o ≤ 17)
    ·
      go_enter Try.func70, Try.ntmps70
      go_wp2
      go_ret
      exact ⟨rfl, rfl⟩
    · cases t3 : decide (0 ≤ rs)
      ·
        go_enter Try.func70, Try.ntmps70
        go_wp2
        go_ret
        exact ⟨rfl, rfl⟩
      · cases t4 : decide (rs ≤ 15)
        ·
          go_enter Try.func70, Try.ntmps70
          go_wp2
          go_ret
          exact ⟨rfl, rfl⟩
        · cases t5 : decide (0 ≤ rt)
          ·
            go_enter Try.func70, Try.ntmps70
            go_wp2
            go_ret
            exact ⟨rfl, rfl⟩
          · cases t6 : decide (rt ≤ 15)
            ·
              go_enter Try.func70, Try.ntmps70
              go_wp2
              go_ret
              exact ⟨rfl, rfl⟩
            ·
              go_enter Try.func70, Try.ntmps70
              go_wp2
              go_ret
              exact ⟨rfl, rfl⟩

def whileL (o rs rt : Int) (p : List In) : List In := [⟨o, 0, rs, rt, 2⟩, ⟨18, 0, 0, 0, (p.length : Int) + 2⟩] ++ (p ++ [⟨18, 0, 0, 0, -(p.length : Int) - 2⟩])
def whileF (o rs rt : Int) (p : List In) : List In := if (testB o rs rt && rightP p) = true then madeF (whileL o rs rt p) else []
theorem whileF_no {o rs rt : Int} {p : List In} (h : testB o rs rt = false ∨ rightP p = false) : whileF o rs rt p = [] := by
  unfold whileF
  rw [if_neg]
  rcases h with h | h <;> simp [h]
theorem whileF_yes {o rs rt : Int} {p : List In} (h1 : testB o rs rt = true) (h2 : rightP p = true) : whileF o rs rt p = madeF (whileL o rs rt p) := by
  unfold whileF
  rw [if_pos]
  simp [h1, h2]
def ifL (o rs rt : Int) (p q : List In) : List In := [⟨o, 0, rs, rt, (q.length : Int) + 2⟩] ++ (q ++ ([⟨18, 0, 0, 0, (p.length : Int) + 1⟩] ++ p))
def ifF (o rs rt : Int) (p q : List In) : List In := if (testB o rs rt && (rightP p && rightP q)) = true then madeF (ifL o rs rt p q) else []
theorem ifF_no {o rs rt : Int} {p q : List In} (h : testB o rs rt = false ∨ rightP p = false ∨ rightP q = false) : ifF o rs rt p q = [] := by
  unfold ifF
  rw [if_neg]
  rcases h with h | h | h <;> simp [h]
theorem ifF_yes {o rs rt : Int} {p q : List In} (h1 : testB o rs rt = true) (h2 : rightP p = true) (h3 : rightP q = true) : ifF o rs rt p q = madeF (ifL o rs rt p q) := by
  unfold ifF
  rw [if_pos]
  simp [h1, h2, h3]


set_option maxHeartbeats 2000000 in
set_option maxRecDepth 100000 in
theorem while_any (o rs rt : Int) (v : Value) (p : List In) (w : World) (hp : PAt w v p) (hl : p.length ≤ 1000) : Calls Try.prog 21 #[.int .i64 o, .int .i64 rs, .int .i64 rt, v] w (RetSl fun x w' => IsNew w w' x (whileF o rs rt p)) := by
  obtain ⟨pp, pc, rfl⟩ := hp.form
  have HP := Lib.hid hp
  clear hp
  obtain ⟨b4, h4⟩ : ∃ x, rightP p = x := ⟨_, rfl⟩
  have H4 := Lib.hid h4
  clear h4
  -- the three tests at the head: branch, reg, reg
  have hT := testB_eq o rs rt
  obtain ⟨b1, h1⟩ : ∃ x, branchB o = x := ⟨_, rfl⟩
  obtain ⟨b2, h2⟩ : ∃ x, regB rs = x := ⟨_, rfl⟩
  obtain ⟨b3, h3⟩ : ∃ x, regB rt = x := ⟨_, rfl⟩
  rw [h1, h2, h3] at hT
  have H1 := Lib.hid h1
  have H2 := Lib.hid h2
  have H3 := Lib.hid h3
  have HT := Lib.hid hT
  clear h1 h2 h3 hT
  go_enter Try.func21, Try.ntmps21
  go_wp2_with fail
  refine (branch_any o _).mono ?_
  rintro e w1 ⟨rfl, rfl⟩
  rw [H1.out]
  cases b1
  ·
    go_wp2_with fail
    go_ret
    exact ⟨_, rfl, by rw [whileF_no (.inl HT.out)]; exact ⟨Own.nil _ _ _ _, Chg.refl _ _⟩⟩
  · go_wp2_with fail
    refine (reg0_any rs _).mono ?_
    rintro e w1 ⟨rfl, rfl⟩
    rw [H2.out]
    cases b2
    ·
      go_wp2_with fail
      go_ret
      exact ⟨_, rfl, by rw [whileF_no (.inl HT.out)]; exact ⟨Own.nil _ _ _ _, Chg.refl _ _⟩⟩
    · go_wp2_with fail
      refine (reg0_any rt _).mono ?_
      rintro e w1 ⟨rfl, rfl⟩
      rw [H3.out]
      cases b3
      ·
        go_wp2_with fail
        go_ret
        exact ⟨_, rfl, by rw [whileF_no (.inl HT.out)]; exact ⟨Own.nil _ _ _ _, Chg.refl _ _⟩⟩
      · go_wp2_with fail
        refine (bright_any _ _ p _ HP.out.choose_spec (by omega)).mono ?_
        rintro e w1 ⟨rfl, C1⟩
        rw [H4.out]
        have HC1 := Lib.hid C1
        clear C1
        cases b4
        ·
          go_wp2_with fail
          go_ret
          exact ⟨_, rfl, by rw [whileF_no (.inr H4.out)]; exact ⟨Own.nil _ _ _ _, HC1.out⟩⟩
        · go_wp2_with fail
          refine (jal_any _ _).mono ?_
          rintro e w2 ⟨rfl, C2⟩
          have HB := Lib.hid (IsNew.fresh w2 [⟨o, 0, rs, rt, 2⟩, ⟨18, 0, 0, 0, (p.length : Int) + 2⟩] _ rfl 2 rfl (by omega))
          have HC2 := Lib.hid C2
          clear C2
          go_wp2_with fail
          refine (jal_any _ _).mono ?_
          rintro e w3 ⟨rfl, C3⟩
          have HB3 := Lib.hid (IsNew.fresh w3 [⟨18, 0, 0, 0, -(p.length : Int) - 2⟩] _ rfl 1 rfl (by omega))
          have HC3 := Lib.hid C3
          clear C3
          go_wp2_with fail
          have C34 := HC3.out.step HB3.out.2
          have hR := (HB.out.at.chg0 C34).rows (((HP.out.chg0 HC1.out).chg0 ((HC2.out.step HB.out.2).step C34)).rows (HB3.out.at.rows (PRows.nil _)))
          refine (seq_rows _ _ _ hR (w3.heap.size + 1) (by simp) 3 rfl (by omega) (by simp; omega)).mono ?_
          rintro e w4 ⟨v4, rfl, N4⟩
          have HN4 := Lib.hid (show IsNew _ w4 v4 (whileL o rs rt p) by simpa [whileL] using N4)
          have HC := Lib.hid ((HC1.out.step (HC2.out.step HB.out.2)).step C34)
          clear N4 hR C34
          go_wp2_with fail
          refine (made_any _ _ _ _ HN4.out (by unfold whileL; simp; omega)).mono ?_
          rintro e w5 ⟨v5, rfl, N5⟩
          have HN5 := Lib.hid N5
          clear N5
          go_wp2_with fail
          go_ret
          exact ⟨_, rfl, by rw [whileF_yes HT.out H4.out]; exact HN5.out.from HC.out⟩

set_option maxHeartbeats 2000000 in
set_option maxRecDepth 100000 in
theorem rwhile_any (o rs rt : Int) (v : Value) (p : List In) (w : World) (hp : PAt w v p) (hl : p.length ≤ 1000) : Calls Try.prog 22 #[.int .i64 o, .int .i64 rs, .int .i64 rt, v] w (RetSl fun x w' => IsNew w w' x (whileF o rs rt p)) := by
  obtain ⟨pp, pc, rfl⟩ := hp.form
  have HP := Lib.hid hp
  clear hp
  obtain ⟨b4, h4⟩ : ∃ x, rightP p = x := ⟨_, rfl⟩
  have H4 := Lib.hid h4
  obtain ⟨b1, h1⟩ : ∃ x, testB o rs rt = x := ⟨_, rfl⟩
  have HT := Lib.hid h1
  clear h1 h4
  go_enter Try.func22, Try.ntmps22
  go_wp2_with fail
  refine (test_any o rs rt _).mono ?_
  rintro e w1 ⟨rfl, rfl⟩
  rw [HT.out]
  cases b1
  ·
    go_wp2_with fail
    go_ret
    exact ⟨_, rfl, by rw [whileF_no (.inl HT.out)]; exact ⟨Own.nil _ _ _ _, Chg.refl _ _⟩⟩
  · go_wp2_with fail
    refine (rright39_any _ _ p _ HP.out.choose_spec (by omega)).mono ?_
    rintro e w1 ⟨rfl, C1⟩
    rw [H4.out]
    have HC1 := Lib.hid C1
    clear C1
    cases b4
    ·
      go_wp2_with fail
      go_ret
      exact ⟨_, rfl, by rw [whileF_no (.inr H4.out)]; exact ⟨Own.nil _ _ _ _, HC1.out⟩⟩
    · go_wp2_with fail
      refine (one_any _ _ _ _ _ _).mono ?_
      rintro e w3 ⟨v3, rfl, N3⟩
      obtain ⟨p3, c3, e⟩ := N3.1.form
      subst e
      have HN3 := Lib.hid N3
      clear N3
      go_wp2_with fail
      refine (one_any _ _ _ _ _ _).mono ?_
      rintro e w4 ⟨v4, rfl, N4⟩
      obtain ⟨p4, c4, e⟩ := N4.1.form
      subst e
      have HN4 := Lib.hid N4
      clear N4
      go_wp2_with fail
      refine (one_any _ _ _ _ _ _).mono ?_
      rintro e w5 ⟨v5, rfl, N5⟩
      obtain ⟨p5, c5, e⟩ := N5.1.form
      subst e
      have HN5 := Lib.hid N5
      clear N5
      go_wp2_with fail
      have C45 := HN4.out.2.step HN5.out.2
      have hR := (HN3.out.at.chg0 C45).rows ((HN4.out.at.chg0 HN5.out.2).rows (((HP.out.chg0 HC1.out).chg0 (HN3.out.2.step C45)).rows (HN5.out.at.rows (PRows.nil _))))
      refine (join_rows _ _ _ hR _ rfl 4 rfl (by omega) (by simp; omega)).mono ?_
      rintro e w6 ⟨v6, rfl, N6⟩
      have hTL : whileL o rs rt p = [[(⟨o, 0, rs, rt, 2⟩ : In)], [⟨18, 0, 0, 0, (p.length : Int) + 2⟩], p, [⟨18, 0, 0, 0, -2 - (p.length : Int)⟩]].flatten := by
        unfold whileL
        rw [show (-2 - (p.length : Int)) = -(p.length : Int) - 2 by omega]
        simp
      have HN6 := Lib.hid (show IsNew w5 w6 v6 (madeF (whileL o rs rt p)) by rw [hTL]; exact N6)
      have HC := Lib.hid (HC1.out.step (HN3.out.2.step C45))
      clear N6 hR C45 hTL
      go_wp2_with fail
      go_ret
      exact ⟨_, rfl, by rw [whileF_yes HT.out H4.out]; exact HN6.out.from HC.out⟩

set_option maxHeartbeats 2000000 in
set_option maxRecDepth 100000 in
theorem if_any (o rs rt : Int) (v u : Value) (p q : List In) (w : World) (hp : PAt w v p) (hl : p.length ≤ 1000) (hq : PAt w u q) (hk : q.length ≤ 1000) : Calls Try.prog 23 #[.int .i64 o, .int .i64 rs, .int .i64 rt, v, u] w (RetSl fun x w' => IsNew w w' x (ifF o rs rt p q)) := by
  obtain ⟨pp, pc, rfl⟩ := hp.form
  obtain ⟨qp, qc, rfl⟩ := hq.form
  have HP := Lib.hid hp
  have HQ := Lib.hid hq
  clear hp hq
  obtain ⟨b4, h4⟩ : ∃ x, rightP p = x := ⟨_, rfl⟩
  have H4 := Lib.hid h4
  obtain ⟨b5, h5⟩ : ∃ x, rightP q = x := ⟨_, rfl⟩
  have H5 := Lib.hid h5
  clear h4 h5
  -- the three tests at the head: branch, reg, reg
  have hT := testB_eq o rs rt
  obtain ⟨b1, h1⟩ : ∃ x, branchB o = x := ⟨_, rfl⟩
  obtain ⟨b2, h2⟩ : ∃ x, regB rs = x := ⟨_, rfl⟩
  obtain ⟨b3, h3⟩ : ∃ x, regB rt = x := ⟨_, rfl⟩
  rw [h1, h2, h3] at hT
  have H1 := Lib.hid h1
  have H2 := Lib.hid h2
  have H3 := Lib.hid h3
  have HT := Lib.hid hT
  clear h1 h2 h3 hT
  go_enter Try.func23, Try.ntmps23
  go_wp2_with fail
  refine (branch_any o _).mono ?_
  rintro e w1 ⟨rfl, rfl⟩
  rw [H1.out]
  cases b1
  ·
    go_wp2_with fail
    go_ret
    exact ⟨_, rfl, by rw [ifF_no (.inl HT.out)]; exact ⟨Own.nil _ _ _ _, Chg.refl _ _⟩⟩
  · go_wp2_with fail
    refine (reg0_any rs _).mono ?_
    rintro e w1 ⟨rfl, rfl⟩
    rw [H2.out]
    cases b2
    ·
      go_wp2_with fail
      go_ret
      exact ⟨_, rfl, by rw [ifF_no (.inl HT.out)]; exact ⟨Own.nil _ _ _ _, Chg.refl _ _⟩⟩
    · go_wp2_with fail
      refine (reg0_any rt _).mono ?_
      rintro e w1 ⟨rfl, rfl⟩
      rw [H3.out]
      cases b3
      ·
        go_wp2_with fail
        go_ret
        exact ⟨_, rfl, by rw [ifF_no (.inl HT.out)]; exact ⟨Own.nil _ _ _ _, Chg.refl _ _⟩⟩
      · go_wp2_with fail
        refine (bright_any _ _ p _ HP.out.choose_spec (by omega)).mono ?_
        rintro e w1 ⟨rfl, C1⟩
        rw [H4.out]
        have HC1 := Lib.hid C1
        clear C1
        cases b4
        ·
          go_wp2_with fail
          go_ret
          exact ⟨_, rfl, by rw [ifF_no (.inr (.inl H4.out))]; exact ⟨Own.nil _ _ _ _, HC1.out⟩⟩
        · go_wp2_with fail
          refine (bright_any _ _ q _ (HQ.out.chg0 HC1.out).choose_spec (by omega)).mono ?_
          rintro e w2 ⟨rfl, C2⟩
          rw [H5.out]
          have HC2 := Lib.hid (HC1.out.step C2)
          clear C2
          cases b5
          ·
            go_wp2_with fail
            go_ret
            exact ⟨_, rfl, by rw [ifF_no (.inr (.inr H5.out))]; exact ⟨Own.nil _ _ _ _, HC2.out⟩⟩
          · have HB := Lib.hid (IsNew.fresh w2 [⟨o, 0, rs, rt, (q.length : Int) + 2⟩] _ rfl 1 rfl (by omega))
            go_wp2_with fail
            refine (jal_any _ _).mono ?_
            rintro e w3 ⟨rfl, C3⟩
            have HB3 := Lib.hid (IsNew.fresh w3 [⟨18, 0, 0, 0, (p.length : Int) + 1⟩] _ rfl 1 rfl (by omega))
            have HC3 := Lib.hid C3
            clear C3
            go_wp2_with fail
            have C34 := HC3.out.step HB3.out.2
            have C24 := HB.out.2.step C34
            have hR := (HB.out.at.chg0 C34).rows (((HQ.out.chg0 HC2.out).chg0 C24).rows (HB3.out.at.rows (((HP.out.chg0 HC2.out).chg0 C24).rows (PRows.nil _))))
            refine (seq_rows _ _ _ hR (w3.heap.size + 1) (by simp) 4 rfl (by omega) (by simp; omega)).mono ?_
            rintro e w4 ⟨v4, rfl, N4⟩
            have HN4 := Lib.hid (show IsNew _ w4 v4 (ifL o rs rt p q) by simpa [ifL] using N4)
            have HC := Lib.hid (HC2.out.step C24)
            clear N4 hR C34 C24
            go_wp2_with fail
            refine (made_any _ _ _ _ HN4.out (by unfold ifL; simp; omega)).mono ?_
            rintro e w5 ⟨v5, rfl, N5⟩
            have HN5 := Lib.hid N5
            clear N5
            go_wp2_with fail
            go_ret
            exact ⟨_, rfl, by rw [ifF_yes HT.out H4.out H5.out]; exact HN5.out.from HC.out⟩

set_option maxHeartbeats 2000000 in
set_option maxRecDepth 100000 in
theorem rif_any (o rs rt : Int) (v u : Value) (p q : List In) (w : World) (hp : PAt w v p) (hl : p.length ≤ 1000) (hq : PAt w u q) (hk : q.length ≤ 1000) : Calls Try.prog 24 #[.int .i64 o, .int .i64 rs, .int .i64 rt, v, u] w (RetSl fun x w' => IsNew w w' x (ifF o rs rt p q)) := by
  obtain ⟨pp, pc, rfl⟩ := hp.form
  obtain ⟨qp, qc, rfl⟩ := hq.form
  have HP := Lib.hid hp
  have HQ := Lib.hid hq
  clear hp hq
  obtain ⟨b4, h4⟩ : ∃ x, rightP p = x := ⟨_, rfl⟩
  have H4 := Lib.hid h4
  obtain ⟨b5, h5⟩ : ∃ x, rightP q = x := ⟨_, rfl⟩
  have H5 := Lib.hid h5
  obtain ⟨b1, h1⟩ : ∃ x, testB o rs rt = x := ⟨_, rfl⟩
  have HT := Lib.hid h1
  clear h1 h4 h5
  go_enter Try.func24, Try.ntmps24
  go_wp2_with fail
  refine (test_any o rs rt _).mono ?_
  rintro e w1 ⟨rfl, rfl⟩
  rw [HT.out]
  cases b1
  ·
    go_wp2_with fail
    go_ret
    exact ⟨_, rfl, by rw [ifF_no (.inl HT.out)]; exact ⟨Own.nil _ _ _ _, Chg.refl _ _⟩⟩
  · go_wp2_with fail
    refine (rright39_any _ _ p _ HP.out.choose_spec (by omega)).mono ?_
    rintro e w1 ⟨rfl, C1⟩
    rw [H4.out]
    have HC1 := Lib.hid C1
    clear C1
    cases b4
    ·
      go_wp2_with fail
      go_ret
      exact ⟨_, rfl, by rw [ifF_no (.inr (.inl H4.out))]; exact ⟨Own.nil _ _ _ _, HC1.out⟩⟩
    · go_wp2_with fail
      refine (rright39_any _ _ q _ (HQ.out.chg0 HC1.out).choose_spec (by omega)).mono ?_
      rintro e w2 ⟨rfl, C2⟩
      rw [H5.out]
      have HC2 := Lib.hid (HC1.out.step C2)
      clear C2
      cases b5
      ·
        go_wp2_with fail
        go_ret
        exact ⟨_, rfl, by rw [ifF_no (.inr (.inr H5.out))]; exact ⟨Own.nil _ _ _ _, HC2.out⟩⟩
      · go_wp2_with fail
        refine (one_any _ _ _ _ _ _).mono ?_
        rintro e w3 ⟨v3, rfl, N3⟩
        obtain ⟨p3, c3, e⟩ := N3.1.form
        subst e
        have HN3 := Lib.hid N3
        clear N3
        go_wp2_with fail
        refine (one_any _ _ _ _ _ _).mono ?_
        rintro e w4 ⟨v4, rfl, N4⟩
        obtain ⟨p4, c4, e⟩ := N4.1.form
        subst e
        have HN4 := Lib.hid N4
        clear N4
        go_wp2_with fail
        have C34 := HN3.out.2.step HN4.out.2
        have hR := (HN3.out.at.chg0 HN4.out.2).rows (((HQ.out.chg0 HC2.out).chg0 C34).rows (HN4.out.at.rows (((HP.out.chg0 HC2.out).chg0 C34).rows (PRows.nil _))))
        refine (join_rows _ _ _ hR _ rfl 4 rfl (by omega) (by simp; omega)).mono ?_
        rintro e w6 ⟨v6, rfl, N6⟩
        have HN6 := Lib.hid (show IsNew w4 w6 v6 (madeF (ifL o rs rt p q)) by simpa [ifL] using N6)
        have HC := Lib.hid (HC2.out.step C34)
        clear N6 hR C34
        go_wp2_with fail
        go_ret
        exact ⟨_, rfl, by rw [ifF_yes HT.out H4.out H5.out]; exact HN6.out.from HC.out⟩
end Go.Proofs.Ytdkplhdinklflaa
