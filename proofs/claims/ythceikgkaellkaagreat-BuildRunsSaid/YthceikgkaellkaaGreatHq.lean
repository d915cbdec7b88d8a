/- Pieces of programs: constants by the reference. No condition. Pieces of programs: Times, While, If. No condition. Pieces of programs: While, If. No condition. -/
import Derived.Test.YthceikgkaellkaaGreatHp
set_option linter.unusedVariables false
namespace Go.Proofs.YthceikgkaellkaaGreat
open Go.RowKit Go.RR

def sgn (v : Int) : Int := if v < 9223372036854775808 then v else v - 18446744073709551616
theorem sgn_in {v : Int} (h0 : 0 ≤ v) (h1 : v < U64) : -9223372036854775808 ≤ sgn v ∧ sgn v ≤ 9223372036854775807 ∧ v = sgn v % U64 := by
  unfold sgn U64 at *; split <;> omega
theorem const_any (rd v : Int) (w : World) (h0 : 0 ≤ v) (h1 : v < U64) : Calls Tryz.prog 25 #[.int .i64 rd, .int .u64 v] w (RetSl fun x w' => IsNew w w' x (constF rd (sgn v))) := by
  obtain ⟨a, b, c⟩ := sgn_in h0 h1
  unfold constF
  by_cases hr : ownB rd = true
  · rw [if_pos hr]
    refine const_go rd hr 6 (sgn v) w (by omega) ?_ ?_ a b v c
    · have : (2048 : Int) ^ (6 + 1) = 151115727451828646838272 := by decide
      omega
    · have : (2048 : Int) ^ (6 + 1) = 151115727451828646838272 := by decide
      omega
  · rw [if_neg hr]
    have hr' : ownB rd = false := by simpa using hr
    have HR := Lib.hid hr'
    clear hr hr' a b c h0 h1
    go_enter Tryz.func25, Tryz.ntmps25
    go_wp2_with fail
    refine (own_any39 rd _).mono ?_
    rintro e w1 ⟨rfl, rfl⟩
    rw [HR.out]
    go_wp2_with fail
    go_ret
    exact ⟨_, rfl, IsNew.nil _⟩

end Go.Proofs.YthceikgkaellkaaGreat
set_option linter.unusedVariables false
namespace Go.Proofs.YthceikgkaellkaaGreat
open Go.RowKit Go.RR

/-- A slice that reads as a piece. -/
def PAt (w : World) (v : Value) (l : List In) : Prop := ∃ S : Nat → Prop, Sl w S 5 v l.length (icells l)
theorem PAt.chg0 {w w' : World} {v : Value} {l : List In} (h : PAt w v l) (c : Chg NoB w w') : PAt w' v l := by obtain ⟨S, hS⟩ := h; exact ⟨S, hS.chg0 c⟩
theorem PAt.form {w : World} {v : Value} {l : List In} (h : PAt w v l) : ∃ p c, v = .slice p l.length c := by obtain ⟨S, hS⟩ := h; exact hS.form
theorem IsNew.at {w0 w : World} {v : Value} {l : List In} (h : IsNew w0 w v l) : PAt w v l := ⟨_, h.1.sl⟩
theorem PAt.rows {w : World} {v : Value} {l : List In} {vs : List Value} {ls : List (List In)} (h : PAt w v l) (r : PRows w vs ls) : PRows w (v :: vs) (l :: ls) := by obtain ⟨S, hS⟩ := h; exact PRows.cons hS r


theorem seq_rows (vs : List Value) (ls : List (List In)) (w : World) (hr : PRows w vs ls) (b : Nat) (hb : w.heap.size = b) (n : Nat) (hn : vs.length = n) (h10 : n ≤ 10) (hl : ls.flatten.length ≤ 100000) :
    Calls Tryz.prog 33 #[.slice (some ⟨b, 0, none⟩) n n] (w.alloc (.cells vs.toArray 53)) (RetSl fun v' w' => IsNew w w' v' ls.flatten) := by
  subst hn hb
  have D := (Chg.refl NoB w).alloc (.cells vs.toArray 53)
  refine (seq_any _ _ vs ls _ (Sl.fresh w vs 53 vs.length (by simp)) (hr.chg0 D) (by omega) hl).mono ?_
  rintro e w' ⟨v, rfl, h⟩
  exact ⟨v, rfl, h.from D⟩
def timesL (rd n : Int) (p : List In) : List In := constF rd n ++ (p ++ [⟨2, rd, rd, 0, -1⟩, ⟨16, 0, rd, 0, -(p.length : Int) - 1⟩])
def timesB (rd n : Int) (p : List In) : Bool := ownB rd && decide (1 ≤ n) && decide (n ≤ 1000000) && rightP p
def timesF (rd n : Int) (p : List In) : List In := if timesB rd n p = true then madeF (timesL rd n p) else []
theorem timesF_no {rd n : Int} {p : List In} (h : ownB rd = false ∨ n < 1 ∨ 1000000 < n ∨ rightP p = false) : timesF rd n p = [] := by
  unfold timesF timesB
  rw [if_neg]
  rcases h with h | h | h | h
  · simp [h]
  · have : ¬ 1 ≤ n := by omega
    simp [this]
  · have : ¬ n ≤ 1000000 := by omega
    simp [this]
  · simp [h]
theorem timesF_yes {rd n : Int} {p : List In} (h1 : ownB rd = true) (h2 : 1 ≤ n) (h3 : n ≤ 1000000) (h4 : rightP p = true) : timesF rd n p = madeF (timesL rd n p) := by
  unfold timesF timesB
  rw [if_pos]
  simp [h1, h2, h3, h4]
theorem constF_len (rd n : Int) : (constF rd n).length ≤ 13 := by
  unfold constF
  split
  · exact (constG_len rd 6 n).2
  · simp


set_option maxHeartbeats 2000000 in
set_option maxRecDepth 100000 in
theorem times_any (rd n : Int) (v : Value) (p : List In) (w : World) (hp : PAt w v p) (hl : p.length ≤ 1000) : Calls Tryz.prog 31 #[.int .i64 rd, .int .i64 n, v] w (RetSl fun x w' => IsNew w w' x (timesF rd n p)) := by
  obtain ⟨pp, pc, rfl⟩ := hp.form
  have HP := Lib.hid hp
  clear hp
  obtain ⟨b1, h1⟩ : ∃ x, ownB rd = x := ⟨_, rfl⟩
  have H1 := Lib.hid h1
  obtain ⟨b4, h4⟩ : ∃ x, rightP p = x := ⟨_, rfl⟩
  have H4 := Lib.hid h4
  clear h1 h4
  go_enter Tryz.func31, Tryz.ntmps31
  go_wp2_with fail
  refine (own_any39 rd _).mono ?_
  rintro e w1 ⟨rfl, rfl⟩
  rw [H1.out]
  cases b1
  ·
    go_wp2_with fail
    go_ret
    exact ⟨_, rfl, by rw [timesF_no (.inl H1.out)]; exact ⟨Own.nil _ _ _ _, Chg.refl _ _⟩⟩
  · by_cases h2 : n < 1
    · have t2 : decide (n < 1) = true := by simp; omega
      have H2 := Lib.hid h2
      clear h2
      go_wp2_with fail
      go_ret
      exact ⟨_, rfl, by rw [timesF_no (.inr (.inl H2.out))]; exact ⟨Own.nil _ _ _ _, Chg.refl _ _⟩⟩
    · have t2 : decide (n < 1) = false := by simp; omega
      by_cases h3 : 1000000 < n
      · have t3 : decide (1000000 < n) = true := by simp; omega
        have H3 := Lib.hid h3
        clear h2 h3
        go_wp2_with fail
        go_ret
        exact ⟨_, rfl, by rw [timesF_no (.inr (.inr (.inl H3.out)))]; exact ⟨Own.nil _ _ _ _, Chg.refl _ _⟩⟩
      · have t3 : decide (1000000 < n) = false := by simp; omega
        have n0 : 1 ≤ n := by omega
        have n1 : n ≤ 1000000 := by omega
        clear h2 h3
        go_wp2_with fail
        refine (bright_any _ _ p _ HP.out.choose_spec (by omega)).mono ?_
        rintro e w1 ⟨rfl, C1⟩
        rw [H4.out]
        have HC1 := Lib.hid C1
        clear C1
        cases b4
        ·
          go_wp2_with fail
          go_ret
          exact ⟨_, rfl, by rw [timesF_no (.inr (.inr (.inr H4.out)))]; exact ⟨Own.nil _ _ _ _, HC1.out⟩⟩
        · have B := IsNew.fresh w1 [⟨2, rd, rd, 0, -1⟩, ⟨16, 0, rd, 0, -(p.length : Int) - 1⟩] _ rfl 2 rfl (by omega)
          have HB := Lib.hid B
          have hs : sgn n = n := by unfold sgn; rw [if_pos (by omega)]
          have HS := Lib.hid hs
          have hu : n < U64 := by unfold U64; omega
          have HU := Lib.hid hu
          clear B hs hu
          go_wp2_with fail
          refine (const_any rd n _ (by omega) HU.out).mono ?_
          rintro e w2 ⟨v2, rfl, N2⟩
          rw [HS.out] at N2
          obtain ⟨p2, c2, e⟩ := N2.1.form
          subst e
          have HN2 := Lib.hid N2
          have hlen := constF_len rd n
          clear N2
          go_wp2_with fail
          have hR := HN2.out.at.rows (((HP.out.chg0 HC1.out).chg0 (HB.out.2.step HN2.out.2)).rows ((HB.out.at.chg0 HN2.out.2).rows (PRows.nil _)))
          refine (seq_rows _ _ _ hR _ rfl 3 rfl (by omega) (by simp; omega)).mono ?_
          rintro e w3 ⟨v3, rfl, N3⟩
          have HN3 := Lib.hid (show IsNew w2 w3 v3 (timesL rd n p) by simpa [timesL] using N3)
          clear N3 hR
          go_wp2_with fail
          refine (made_any39 _ _ _ _ HN3.out (by unfold timesL; simp; omega)).mono ?_
          rintro e w4 ⟨v4, rfl, N4⟩
          have HN4 := Lib.hid N4
          clear N4
          go_wp2_with fail
          go_ret
          exact ⟨_, rfl, by rw [timesF_yes H1.out n0 n1 H4.out]; exact HN4.out.from ((HC1.out.step HB.out.2).step HN2.out.2)⟩

end Go.Proofs.YthceikgkaellkaaGreat
set_option linter.unusedVariables false
namespace Go.Proofs.YthceikgkaellkaaGreat
open Go.RowKit Go.RR



def testB (o rs rt : Int) : Bool := decide (15 ≤ o) && (decide (o ≤ 17) && (decide (0 ≤ rs) && (decide (rs ≤ 15) && (decide (0 ≤ rt) && decide (rt ≤ 15)))))
theorem testB_eq (o rs rt : Int) : testB o rs rt = (branchB o && (regB rs && regB rt)) := by
  have h1 : branchB o = (decide (15 ≤ o) && decide (o ≤ 17)) := by
    unfold branchB
    rw [Bool.eq_iff_iff]; simp; omega
  have h2 : ∀ r : Int, regB r = (decide (0 ≤ r) && decide (r ≤ 15)) := fun r => by
    unfold regB
    rw [Bool.eq_iff_iff]; simp; omega
  rw [h1, h2, h2]
  unfold testB
  simp only [Bool.and_assoc]
def whileL (o rs rt : Int) (p : List In) : List In := [⟨o, 0, rs, rt, 2⟩, ⟨18, 0, 0, 0, (p.length : Int) + 2⟩] ++ (p ++ [⟨18, 0, 0, 0, -(p.length : Int) - 2⟩])
def whileF (o rs rt : Int) (p : List In) : List In := if (testB o rs rt && rightP p) = true then madeF (whileL o rs rt p) else []
theorem whileF_no {o rs rt : Int} {p : List In} (h : testB o rs rt = false ∨ rightP p = false) : whileF o rs rt p = [] := by
  unfold whileF
  rw [if_neg]
  rcases h with h | h <;> simp [h]
theorem whileF_yes {o rs rt : Int} {p : List In} (h1 : testB o rs rt = true) (h2 : rightP p = true) : whileF o rs rt p = madeF (whileL o rs rt p) := by
  unfold whileF
  rw [if_pos]
  simp [h1, h2]
def ifL (o rs rt : Int) (p q : List In) : List In := [⟨o, 0, rs, rt, (q.length : Int) + 2⟩] ++ (q ++ ([⟨18, 0, 0, 0, (p.length : Int) + 1⟩] ++ p))
def ifF (o rs rt : Int) (p q : List In) : List In := if (testB o rs rt && (rightP p && rightP q)) = true then madeF (ifL o rs rt p q) else []
theorem ifF_no {o rs rt : Int} {p q : List In} (h : testB o rs rt = false ∨ rightP p = false ∨ rightP q = false) : ifF o rs rt p q = [] := by
  unfold ifF
  rw [if_neg]
  rcases h with h | h | h <;> simp [h]
theorem ifF_yes {o rs rt : Int} {p q : List In} (h1 : testB o rs rt = true) (h2 : rightP p = true) (h3 : rightP q = true) : ifF o rs rt p q = madeF (ifL o rs rt p q) := by
  unfold ifF
  rw [if_pos]
  simp [h1, h2, h3]


set_option maxHeartbeats 2000000 in
set_option maxRecDepth 100000 in
theorem while_any (o rs rt : Int) (v : Value) (p : List In) (w : World) (hp : PAt w v p) (hl : p.length ≤ 1000) : Calls Tryz.prog 32 #[.int .i64 o, .int .i64 rs, .int .i64 rt, v] w (RetSl fun x w' => IsNew w w' x (whileF o rs rt p)) := by
  obtain ⟨pp, pc, rfl⟩ := hp.form
  have HP := Lib.hid hp
  clear hp
  obtain ⟨b4, h4⟩ : ∃ x, rightP p = x := ⟨_, rfl⟩
  have H4 := Lib.hid h4
  clear h4
  -- the three tests at the head: branch, reg, reg
  have hT := testB_eq o rs rt
  obtain ⟨b1, h1⟩ : ∃ x, branchB o = x := ⟨_, rfl⟩
  obtain ⟨b2, h2⟩ : ∃ x, regB rs = x := ⟨_, rfl⟩
  obtain ⟨b3, h3⟩ : ∃ x, regB rt = x := ⟨_, rfl⟩
  rw [h1, h2, h3] at hT
  have H1 := Lib.hid h1
  have H2 := Lib.hid h2
  have H3 := Lib.hid h3
  have HT := Lib.hid hT
  clear h1 h2 h3 hT
  go_enter Tryz.func32, Tryz.ntmps32
  go_wp2_with fail
  refine (branch_any o _).mono ?_
  rintro e w1 ⟨rfl, rfl⟩
  rw [H1.out]
  cases b1
  ·
    go_wp2_with fail
    go_ret
    exact ⟨_, rfl, by rw [whileF_no (.inl HT.out)]; exact ⟨Own.nil _ _ _ _, Chg.refl _ _⟩⟩
  · go_wp2_with fail
    refine (reg0_any rs _).mono ?_
    rintro e w1 ⟨rfl, rfl⟩
    rw [H2.out]
    cases b2
    ·
      go_wp2_with fail
      go_ret
      exact ⟨_, rfl, by rw [whileF_no (.inl HT.out)]; exact ⟨Own.nil _ _ _ _, Chg.refl _ _⟩⟩
    · go_wp2_with fail
      refine (reg0_any rt _).mono ?_
      rintro e w1 ⟨rfl, rfl⟩
      rw [H3.out]
      cases b3
      ·
        go_wp2_with fail
        go_ret
        exact ⟨_, rfl, by rw [whileF_no (.inl HT.out)]; exact ⟨Own.nil _ _ _ _, Chg.refl _ _⟩⟩
      · go_wp2_with fail
        refine (bright_any _ _ p _ HP.out.choose_spec (by omega)).mono ?_
        rintro e w1 ⟨rfl, C1⟩
        rw [H4.out]
        have HC1 := Lib.hid C1
        clear C1
        cases b4
        ·
          go_wp2_with fail
          go_ret
          exact ⟨_, rfl, by rw [whileF_no (.inr H4.out)]; exact ⟨Own.nil _ _ _ _, HC1.out⟩⟩
        · go_wp2_with fail
          refine (jal_any _ _).mono ?_
          rintro e w2 ⟨rfl, C2⟩
          have HB := Lib.hid (IsNew.fresh w2 [⟨o, 0, rs, rt, 2⟩, ⟨18, 0, 0, 0, (p.length : Int) + 2⟩] _ rfl 2 rfl (by omega))
          have HC2 := Lib.hid C2
          clear C2
          go_wp2_with fail
          refine (jal_any _ _).mono ?_
          rintro e w3 ⟨rfl, C3⟩
          have HB3 := Lib.hid (IsNew.fresh w3 [⟨18, 0, 0, 0, -(p.length : Int) - 2⟩] _ rfl 1 rfl (by omega))
          have HC3 := Lib.hid C3
          clear C3
          go_wp2_with fail
          have C34 := HC3.out.step HB3.out.2
          have hR := (HB.out.at.chg0 C34).rows (((HP.out.chg0 HC1.out).chg0 ((HC2.out.step HB.out.2).step C34)).rows (HB3.out.at.rows (PRows.nil _)))
          refine (seq_rows _ _ _ hR (w3.heap.size + 1) (by simp) 3 rfl (by omega) (by simp; omega)).mono ?_
          rintro e w4 ⟨v4, rfl, N4⟩
          have HN4 := Lib.hid (show IsNew _ w4 v4 (whileL o rs rt p) by simpa [whileL] using N4)
          have HC := Lib.hid ((HC1.out.step (HC2.out.step HB.out.2)).step C34)
          clear N4 hR C34
          go_wp2_with fail
          refine (made_any39 _ _ _ _ HN4.out (by unfold whileL; simp; omega)).mono ?_
          rintro e w5 ⟨v5, rfl, N5⟩
          have HN5 := Lib.hid N5
          clear N5
          go_wp2_with fail
          go_ret
          exact ⟨_, rfl, by rw [whileF_yes HT.out H4.out]; exact HN5.out.from HC.out⟩

set_option maxHeartbeats 2000000 in
set_option maxRecDepth 100000 in
theorem if_any (o rs rt : Int) (v u : Value) (p q : List In) (w : World) (hp : PAt w v p) (hl : p.length ≤ 1000) (hq : PAt w u q) (hk : q.length ≤ 1000) : Calls Tryz.prog 34 #[.int .i64 o, .int .i64 rs, .int .i64 rt, v, u] w (RetSl fun x w' => IsNew w w' x (ifF o rs rt p q)) := by
  obtain ⟨pp, pc, rfl⟩ := hp.form
  obtain ⟨qp, qc, rfl⟩ := hq.form
  have HP := Lib.hid hp
  have HQ := Lib.hid hq
  clear hp hq
  obtain ⟨b4, h4⟩ : ∃ x, rightP p = x := ⟨_, rfl⟩
  have H4 := Lib.hid h4
  obtain ⟨b5, h5⟩ : ∃ x, rightP q = x := ⟨_, rfl⟩
  have H5 := Lib.hid h5
  clear h4 h5
  -- the three tests at the head: branch, reg, reg
  have hT := testB_eq o rs rt
  obtain ⟨b1, h1⟩ : ∃ x, branchB o = x := ⟨_, rfl⟩
  obtain ⟨b2, h2⟩ : ∃ x, regB rs = x := ⟨_, rfl⟩
  obtain ⟨b3, h3⟩ : ∃ x, regB rt = x := ⟨_, rfl⟩
  rw [h1, h2, h3] at hT
  have H1 := Lib.hid h1
  have H2 := Lib.hid h2
  have H3 := Lib.hid h3
  have HT := Lib.hid hT
  clear h1 h2 h3 hT
  go_enter Tryz.func34, Tryz.ntmps34
  go_wp2_with fail
  refine (branch_any o _).mono ?_
  rintro e w1 ⟨rfl, rfl⟩
  rw [H1.out]
  cases b1
  ·
    go_wp2_with fail
    go_ret
    exact ⟨_, rfl, by rw [ifF_no (.inl HT.out)]; exact ⟨Own.nil _ _ _ _, Chg.refl _ _⟩⟩
  · go_wp2_with fail
    refine (reg0_any rs _).mono ?_
    rintro e w1 ⟨rfl, rfl⟩
    rw [H2.out]
    cases b2
    ·
      go_wp2_with fail
      go_ret
      exact ⟨_, rfl, by rw [ifF_no (.inl HT.out)]; exact ⟨Own.nil _ _ _ _, Chg.refl _ _⟩⟩
    · go_wp2_with fail
      refine (reg0_any rt _).mono ?_
      rintro e w1 ⟨rfl, rfl⟩
      rw [H3.out]
      cases b3
      ·
        go_wp2_with fail
        go_ret
        exact ⟨_, rfl, by rw [ifF_no (.inl HT.out)]; exact ⟨Own.nil _ _ _ _, Chg.refl _ _⟩⟩
      · go_wp2_with fail
        refine (bright_any _ _ p _ HP.out.choose_spec (by omega)).mono ?_
        rintro e w1 ⟨rfl, C1⟩
        rw [H4.out]
        have HC1 := Lib.hid C1
        clear C1
        cases b4
        ·
          go_wp2_with fail
          go_ret
          exact ⟨_, rfl, by rw [ifF_no (.inr (.inl H4.out))]; exact ⟨Own.nil _ _ _ _, HC1.out⟩⟩
        · go_wp2_with fail
          refine (bright_any _ _ q _ (HQ.out.chg0 HC1.out).choose_spec (by omega)).mono ?_
          rintro e w2 ⟨rfl, C2⟩
          rw [H5.out]
          have HC2 := Lib.hid (HC1.out.step C2)
          clear C2
          cases b5
          ·
            go_wp2_with fail
            go_ret
            exact ⟨_, rfl, by rw [ifF_no (.inr (.inr H5.out))]; exact ⟨Own.nil _ _ _ _, HC2.out⟩⟩
          · have HB := Lib.hid (IsNew.fresh w2 [⟨o, 0, rs, rt, (q.length : Int) + 2⟩] _ rfl 1 rfl (by omega))
            go_wp2_with fail
            refine (jal_any _ _).mono ?_
            rintro e w3 ⟨rfl, C3⟩
            have HB3 := Lib.hid (IsNew.fresh w3 [⟨18, 0, 0, 0, (p.length : Int) + 1⟩] _ rfl 1 rfl (by omega))
            have HC3 := Lib.hid C3
            clear C3
            go_wp2_with fail
            have C34 := HC3.out.step HB3.out.2
            have C24 := HB.out.2.step C34
            have hR := (HB.out.at.chg0 C34).rows (((HQ.out.chg0 HC2.out).chg0 C24).rows (HB3.out.at.rows (((HP.out.chg0 HC2.out).chg0 C24).rows (PRows.nil _))))
            refine (seq_rows _ _ _ hR (w3.heap.size + 1) (by simp) 4 rfl (by omega) (by simp; omega)).mono ?_
            rintro e w4 ⟨v4, rfl, N4⟩
            have HN4 := Lib.hid (show IsNew _ w4 v4 (ifL o rs rt p q) by simpa [ifL] using N4)
            have HC := Lib.hid (HC2.out.step C24)
            clear N4 hR C34 C24
            go_wp2_with fail
            refine (made_any39 _ _ _ _ HN4.out (by unfold ifL; simp; omega)).mono ?_
            rintro e w5 ⟨v5, rfl, N5⟩
            have HN5 := Lib.hid N5
            clear N5
            go_wp2_with fail
            go_ret
            exact ⟨_, rfl, by rw [ifF_yes HT.out H4.out H5.out]; exact HN5.out.from HC.out⟩

end Go.Proofs.YthceikgkaellkaaGreat
