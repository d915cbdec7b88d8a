/- BuildPieces returns true, whatever it is given. -/
import Derived.Test.YtdkplhdinklflaaBuildLocks
import Derived.Test.YtdkplhdinklflaaBuild12
set_option linter.unusedVariables false
namespace Go.Proofs.Ytdkplhdinklflaa
open Go.RowKit Go.RR

theorem PAt.nil (w : World) : PAt w (.slice none 0 0) [] := ⟨NoB, Sl.nil _ _ _⟩
theorem PAt.empty (w : World) (p : Option Addr) (c : Nat) : PAt w (.slice p 0 c) [] := ⟨NoB, Sl.empty _ _ _ _ _⟩
/-- What stands behind k instructions of a piece that a call has made. -/
theorem IsNew.tail {w0 w : World} {p : Option Addr} {n c : Nat} {l : List In} (h : IsNew w0 w (.slice p n c) l) (hn : l.length = n) (k m : Nat) (hk : k + m = n) :
    (k = c ∧ m = 0) ∨ (k ≠ c ∧ n ≤ c ∧ ∃ g of, p = some ⟨g, of, none⟩ ∧ PAt w (.slice (some ⟨g, of + k * 5, none⟩) m (c - k)) (l.drop k)) := by
  subst hn
  obtain ⟨h1, ⟨h2, h3⟩ | ⟨g, of, cap, cur, e, -, -, h4, -⟩⟩ := h.1
  · injection h2 with e1 e2 e3; left; omega
  · cases e
    by_cases hc : k = c
    · left; omega
    · right
      exact ⟨hc, h4, g, of, rfl, h.at.drop k m (c - k) (by omega) (by omega)⟩

theorem madeF_len (l : List In) : (madeF l).length ≤ l.length := by unfold madeF; split <;> simp
theorem timesF_len (a n : Int) (P : List In) : (timesF a n P).length ≤ P.length + 15 := by
  unfold timesF
  split
  · have h1 := madeF_len (timesL a n P)
    have h2 := constF_len a n
    unfold timesL at h1 ⊢
    simp at h1 ⊢
    omega
  · simp
theorem whileF_len (o a b : Int) (P : List In) : (whileF o a b P).length ≤ P.length + 3 := by
  unfold whileF
  split
  · have h1 := madeF_len (whileL o a b P)
    unfold whileL at h1 ⊢
    simp at h1 ⊢
    omega
  · simp
theorem ifF_len (o a b : Int) (P Q : List In) : (ifF o a b P Q).length ≤ P.length + Q.length + 2 := by
  unfold ifF
  split
  · have h1 := madeF_len (ifL o a b P Q)
    unfold ifL at h1 ⊢
    simp at h1 ⊢
    omega
  · simp
set_option maxHeartbeats 4000000 in
set_option maxRecDepth 100000 in
theorem buildPieces_any (o a b n : Int) (S : Nat → Prop) (v : Value) (vs : List Value) (ls : List (List In)) (w : World) (hs : Sl w S 1 v vs.length vs) (hr : PRows w vs ls) (hn : vs.length ≤ 9223372036854775807) (hls : ∀ l ∈ ls, l.length ≤ 9223372036854775807) : Calls Try.prog 4 #[.int .i64 o, .agg #[.int .i64 a, .int .i64 b, .int .i64 n], v] w (RetW (.bool true) fun w' => Chg NoB w w') := by
  obtain ⟨p, cap, rfl⟩ := hs.form
  have HS := Lib.hid hs
  have HR := Lib.hid hr
  have HLS := Lib.hid hls
  have B0 := Lib.hid (Blk.new w #[.int .i64 a, .int .i64 b, .int .i64 n] 34)
  have A0 := Lib.hid ((Chg.refl NoB w).alloc (.cells #[.int .i64 a, .int .i64 b, .int .i64 n] 34))
  clear hs hr hls
  go_enter Try.func4, Try.ntmps4
  go_wp2_with fail
  refine (first39_any _).mono ?_
  rintro e w1 ⟨rfl, C1⟩
  have B1 := C1.blk0 B0.out
  have HC1 := Lib.hid (A0.out.step C1)
  have x0 := B1.cell' (i := 0) (v := .int .i64 a) (by rfl)
  have x1 := B1.cell' (i := 1) (v := .int .i64 b) (by rfl)
  have x2 := B1.cell' (i := 2) (v := .int .i64 n) (by rfl)
  clear C1 B1 B0 A0
  go_upto_if 17 with fail
  go_cut [7] (fun pv wx => (∃ P : List In, PAt w1 pv P ∧ P.length ≤ 9223372036854775807) ∧ wx = w1)
  case first =>
    by_cases h0 : 0 < vs.length
    · have t0 : decide (0 < vs.length) = true := decide_eq_true (by omega)
      have t0' : decide ((0 : Int) < vs.length) = true := decide_eq_true (by omega)
      obtain ⟨x, hx⟩ : ∃ x, vs[0]? = some x := ⟨vs[0], by simp [h0]⟩
      obtain ⟨l, hl⟩ : ∃ l, ls[0]? = some l := ⟨ls[0]'(by have := HR.out.1; omega), by simp [show 0 < ls.length by have := HR.out.1; omega]⟩
      have hP : PAt w1 x l := (HR.out.chg0 HC1.out).2 0 x l hx hl
      have hlen := HLS.out l (List.mem_of_getElem? hl)
      obtain ⟨p', cap', rfl⟩ := hP.form
      obtain ⟨-, pz, cz, e, hcz, hsz⟩ := HS.out.chg0 HC1.out
      cases e
      obtain ⟨g, of, rfl, -, hg, hcell⟩ := hsz (by omega)
      have y0 := hcell 0 _ hx
      rw [Nat.add_zero] at y0
      have HP := Lib.hid hP
      have HL := Lib.hid hlen
      clear hP hlen hcell hsz hx hl
      go_wp2_with fail
      go_meet
      exact ⟨⟨l, HP.out, HL.out⟩, rfl⟩
    · have t0 : decide (0 < vs.length) = false := decide_eq_false (by omega)
      have t0' : decide ((0 : Int) < vs.length) = false := decide_eq_false (by omega)
      go_wp2_with fail
      go_meet
      exact ⟨⟨[], PAt.nil _, by simp⟩, rfl⟩
  case rest =>
    obtain ⟨⟨P, hP, hPl⟩, rfl⟩ := hcut
    obtain ⟨pp, pc, rfl⟩ := hP.form
    have HP := Lib.hid hP
    clear hP
    go_upto_if 23 with fail
    go_cut [8] (fun pv wx => (∃ P : List In, PAt wc pv P ∧ P.length ≤ 9223372036854775807) ∧ wx = wc)
    case first =>
      by_cases h0 : 1 < vs.length
      · have t0 : decide (1 < vs.length) = true := decide_eq_true (by omega)
        have t0' : decide ((1 : Int) < vs.length) = true := decide_eq_true (by omega)
        obtain ⟨x, hx⟩ : ∃ x, vs[1]? = some x := ⟨vs[1], by simp [h0]⟩
        obtain ⟨l, hl⟩ : ∃ l, ls[1]? = some l := ⟨ls[1]'(by have := HR.out.1; omega), by simp [show 1 < ls.length by have := HR.out.1; omega]⟩
        have hP : PAt wc x l := (HR.out.chg0 HC1.out).2 1 x l hx hl
        have hlen := HLS.out l (List.mem_of_getElem? hl)
        obtain ⟨p', cap', rfl⟩ := hP.form
        obtain ⟨-, pz, cz, e, hcz, hsz⟩ := HS.out.chg0 HC1.out
        cases e
        obtain ⟨g, of, rfl, -, hg, hcell⟩ := hsz (by omega)
        have y0 := hcell 1 _ hx
        have HP := Lib.hid hP
        have HL := Lib.hid hlen
        clear hP hlen hcell hsz hx hl
        go_wp2_with fail
        go_meet
        exact ⟨⟨l, HP.out, HL.out⟩, rfl⟩
      · have t0 : decide (1 < vs.length) = false := decide_eq_false (by omega)
        have t0' : decide ((1 : Int) < vs.length) = false := decide_eq_false (by omega)
        go_wp2_with fail
        go_meet
        exact ⟨⟨[], PAt.nil _, by simp⟩, rfl⟩
    case rest =>
      obtain ⟨⟨Q, hQ, hQl⟩, rfl⟩ := hcut
      obtain ⟨qp, qc, rfl⟩ := hQ.form
      have HQ := Lib.hid hQ
      clear hQ
      go_wp2_with fail
      refine (few_any _ _ _ _ hPl).mono ?_
      rintro e w' ⟨rfl, rfl⟩
      by_cases hfew : P.length ≤ 200
      · rw [decide_eq_true hfew]
        clear hPl
        go_wp2_with fail
        refine (few_any _ _ _ _ hQl).mono ?_
        rintro e w' ⟨rfl, rfl⟩
        by_cases hfew2 : Q.length ≤ 200
        · rw [decide_eq_true hfew2]
          clear hQl
          go_wp2_with fail
          go_quiet (fail)
          clear x0 x1 x2
          go_wp2_with fail
          have hR := (HP.out.chg0 ((Chg.refl NoB wc).drewN nq)).rows ((HQ.out.chg0 ((Chg.refl NoB wc).drewN nq)).rows (PRows.nil _))
          refine (seq_rows _ _ _ hR _ rfl 2 rfl (by omega) (by simp; omega)).mono ?_
          rintro e w2 ⟨v2, rfl, N2⟩
          have hfl : [P, Q].flatten = P ++ Q := by simp
          rw [hfl] at N2
          obtain ⟨p2, c2, e⟩ := N2.1.form
          rw [List.length_append] at e
          subst e
          have ht2 := N2.tail (by rw [List.length_append]) P.length Q.length rfl
          have hc2 : P.length + Q.length ≤ c2 := by
            obtain ⟨px, cx, ex, hx⟩ := InsAt.of N2.1.sl (by rw [List.length_append]; omega)
            injection ex with e1 e2 e3
            have := hx.cap
            rw [List.length_append] at this
            omega
          have HT2 := Lib.hid ht2
          have HN2 := Lib.hid N2
          have CW := Lib.hid (((Chg.refl NoB wc).drewN nq).step N2.2)
          have C2 := Lib.hid (Chg.refl NoB w2)
          replace HP := Lib.hid (HP.out.chg0 CW.out)
          replace HQ := Lib.hid (HQ.out.chg0 CW.out)
          clear hR N2 hfl ht2
          go_wp2_with fail
          refine (times_any a n _ P _ (HP.out.chg0 C2.out) (by omega)).mono ?_
          rintro e wA ⟨vA, rfl, NA⟩
          have HA := Lib.hid NA
          clear NA
          go_wp2_with fail
          refine (rtimes_any a n _ P _ (HP.out.chg0 (C2.out.step HA.out.2)) (by omega)).mono ?_
          rintro e wB ⟨vB, rfl, NC⟩
          have HB := Lib.hid NC
          clear NC
          go_wp2_with fail
          refine (same_any _ _ _ _ (timesF a n P) (timesF a n P) _ (HA.out.1.sl.chg0 HB.out.2) HB.out.1.sl (by have := timesF_len a n P; omega) (by have := timesF_len a n P; omega)).mono ?_
          rintro e wC ⟨rfl, CC⟩
          rw [decide_eq_true rfl]
          have C3 := Lib.hid (C2.out.step ((HA.out.2.step HB.out.2).step CC))
          clear CC HA HB
          go_wp2_with fail
          refine (while_any o a b _ P _ (HP.out.chg0 C3.out) (by omega)).mono ?_
          rintro e wA ⟨vA, rfl, NA⟩
          have HA := Lib.hid NA
          clear NA
          go_wp2_with fail
          refine (rwhile_any o a b _ P _ (HP.out.chg0 (C3.out.step HA.out.2)) (by omega)).mono ?_
          rintro e wB ⟨vB, rfl, NC⟩
          have HB := Lib.hid NC
          clear NC
          go_wp2_with fail
          refine (same_any _ _ _ _ (whileF o a b P) (whileF o a b P) _ (HA.out.1.sl.chg0 HB.out.2) HB.out.1.sl (by have := whileF_len o a b P; omega) (by have := whileF_len o a b P; omega)).mono ?_
          rintro e wC ⟨rfl, CC⟩
          rw [decide_eq_true rfl]
          have C4 := Lib.hid (C3.out.step ((HA.out.2.step HB.out.2).step CC))
          clear CC HA HB
          go_wp2_with fail
          refine (if_any o a b _ _ P Q _ (HP.out.chg0 C4.out) (by omega) (HQ.out.chg0 C4.out) (by omega)).mono ?_
          rintro e wA ⟨vA, rfl, NA⟩
          have HA := Lib.hid NA
          clear NA
          go_wp2_with fail
          refine (rif_any o a b _ _ P Q _ (HP.out.chg0 (C4.out.step HA.out.2)) (by omega) (HQ.out.chg0 (C4.out.step HA.out.2)) (by omega)).mono ?_
          rintro e wB ⟨vB, rfl, NC⟩
          have HB := Lib.hid NC
          clear NC
          go_wp2_with fail
          refine (same_any _ _ _ _ (ifF o a b P Q) (ifF o a b P Q) _ (HA.out.1.sl.chg0 HB.out.2) HB.out.1.sl (by have := ifF_len o a b P Q; omega) (by have := ifF_len o a b P Q; omega)).mono ?_
          rintro e wC ⟨rfl, CC⟩
          rw [decide_eq_true rfl]
          have C5 := Lib.hid (C4.out.step ((HA.out.2.step HB.out.2).step CC))
          clear CC HA HB
          go_wp2_with fail
          refine (bright_any _ _ P _ (HP.out.chg0 C5.out).choose_spec (by omega)).mono ?_
          rintro e w6 ⟨rfl, D6⟩
          have C6 := Lib.hid (C5.out.step D6)
          clear D6
          go_wp2_with fail
          refine (rright39_any _ _ P _ (HP.out.chg0 C6.out).choose_spec (by omega)).mono ?_
          rintro e w7 ⟨rfl, D7⟩
          have C7 := Lib.hid (C6.out.step D7)
          clear D7
          go_wp2_with fail
          refine (uses39_any _ _ P _ (HP.out.chg0 C7.out).choose_spec (by omega)).mono ?_
          rintro e w8 ⟨rfl, D8⟩
          have C8 := Lib.hid (C7.out.step D8)
          clear D8
          go_wp2_with fail
          refine (ruses39_any _ _ P _ (HP.out.chg0 C8.out).choose_spec (by omega)).mono ?_
          rintro e w9 ⟨rfl, D9⟩
          have C9 := Lib.hid (C8.out.step D9)
          clear D9
          go_wp2_with fail
          have hT := (HN2.out.at.chg0 C9.out).take P.length (by rw [List.length_append]; omega)
          rw [List.take_left] at hT
          refine (same_any _ _ _ _ P P _ hT.choose_spec (HP.out.chg0 C9.out).choose_spec (by omega) (by omega)).mono ?_
          rintro e wx ⟨rfl, D10⟩
          rw [decide_eq_true rfl]
          have C10 := Lib.hid (C9.out.step D10)
          clear D10 hT
          rcases HT2.out with ⟨h1, h2⟩ | ⟨h1, -, g2, f2, h3, h4⟩
          · obtain rfl : Q = [] := List.eq_nil_of_length_eq_zero h2
            obtain rfl : P.length = c2 := h1
            simp only [List.length_nil, Nat.add_zero]
            clear h2 HT2 hc2 hfew2
            go_wp2_with fail
            refine (same_any NoB _ _ _ [] [] _ (Sl.empty _ _ _ _ _) (HQ.out.chg0 C10.out).choose_spec (by simp) (by simp)).mono ?_
            rintro e wy ⟨rfl, D11⟩
            rw [decide_eq_true rfl]
            have C11 := Lib.hid (C10.out.step D11)
            clear D11
            go_wp2_with fail
            go_ret
            exact ⟨rfl, HC1.out.step (CW.out.step C11.out)⟩
          · subst h3
            have hne : ¬ c2 = P.length := fun e => h1 e.symm
            rw [List.drop_left] at h4
            have H4 := Lib.hid h4
            clear h1 h4 HT2
            go_wp2_with fail
            refine (same_any _ _ _ _ Q Q _ (H4.out.chg0 C10.out).choose_spec (HQ.out.chg0 C10.out).choose_spec (by omega) (by omega)).mono ?_
            rintro e wy ⟨rfl, D11⟩
            rw [decide_eq_true rfl]
            have C11 := Lib.hid (C10.out.step D11)
            clear D11
            go_wp2_with fail
            go_ret
            exact ⟨rfl, HC1.out.step (CW.out.step C11.out)⟩
        · rw [decide_eq_false hfew2]
          go_wp2_with fail
          go_ret
          exact ⟨rfl, HC1.out⟩
      · rw [decide_eq_false hfew]
        go_wp2_with fail
        go_ret
        exact ⟨rfl, HC1.out⟩
end Go.Proofs.Ytdkplhdinklflaa
