/- Meetings. No condition. -/
import Derived.Test.YtdkplhdinklflaaBuild16
import Derived.Test.YtdkplhdinklflaaBuild10
set_option linter.unusedVariables false
namespace Go.Proofs.Ytdkplhdinklflaa
open Go.RowKit Go.RR

theorem right1 {i : In} {k : Kd} (h : kd i.op = k) (hz : k ≠ .z) (h1 : -2048 ≤ i.im ∧ i.im ≤ 2047) (h2 : okr i.rd k.d = true) (h3 : okr i.rs k.q = true) (h4 : okr i.rt k.t = true) (h5 : i.im = 0 ∨ k.i = true) (h6 : k ≠ .B ∧ k ≠ .J) : rightP [i] = true := by
  rw [rightP_iff]
  intro n j hj
  rcases n with _ | n
  · cases hj; exact okAt_row k h hz h1 h2 h3 h4 h5 (.inl h6)
  · simp at hj
theorem constG_right {rd : Int} (h : ownB rd = true) : ∀ (f : Nat) (B n : Int), B = 2048 ^ (f + 1) → -B ≤ n → n < B → rightP (constG f rd n) = true := by
  intro f
  induction f with
  | zero =>
    intro B n hB h1 h2
    have hB' : B = 2048 := by rw [hB]; rfl
    exact right1 (k := .I) rfl (by decide) ⟨by show -2048 ≤ n; omega, by show n ≤ 2047; omega⟩ (okr_own h) rfl rfl (.inr rfl) (by decide)
  | succ f ih =>
    intro B n hB h1 h2
    have h3 : rightP [(⟨3, rd, rd, 0, 11⟩ : In)] = true := right1 (k := .RI) rfl (by decide) (by constructor <;> simp) (okr_own h) (okr_own h) rfl (.inr rfl) (by decide)
    have h4 : rightP [(⟨2, rd, rd, 0, n % 2048⟩ : In)] = true := right1 (k := .RI) rfl (by decide) ⟨by show -2048 ≤ n % 2048; omega, by show n % 2048 ≤ 2047; omega⟩ (okr_own h) (okr_own h) rfl (.inr rfl) (by decide)
    have hB' : B = 2048 ^ (f + 1) * 2048 := by rw [hB, Int.pow_succ]
    generalize (2048 : Int) ^ (f + 1) = C at *
    unfold constG
    split
    · rename_i hs
      exact right1 (k := .I) rfl (by decide) hs (okr_own h) rfl rfl (.inr rfl) (by decide)
    · refine rightP_app (ih C _ rfl (by omega) (by omega)) ?_
      split
      · exact h3
      · exact rightP_app (a := [(⟨3, rd, rd, 0, 11⟩ : In)]) h3 h4

def meetL (base imm n t u w : Int) : List In := [⟨2, t, base, 0, imm⟩, ⟨1, u, 0, 0, 1⟩, ⟨33, u, t, u, 0⟩] ++ (constF w n ++ [⟨22, u, t, 0, 0⟩, ⟨17, 0, u, w, -1⟩])
def meetB (base imm n t u w : Int) : Bool := threeB t u w && (ownB base && ((base != t) && ((base != u) && ((base != w) && (fitsB imm && (decide (1 ≤ n) && decide (n ≤ 1000000)))))))
def meetF (base imm n t u w : Int) : List In := if meetB base imm n t u w = true then meetL base imm n t u w else []
theorem meetF_no {base imm n t u w : Int} (h : meetB base imm n t u w = false) : meetF base imm n t u w = [] := by unfold meetF; rw [if_neg (by simp [h])]
theorem meetF_yes {base imm n t u w : Int} (h : meetB base imm n t u w = true) : meetF base imm n t u w = meetL base imm n t u w := by unfold meetF; rw [if_pos h]
theorem threeB_in {a b c : Int} (h : threeB a b c = true) : ownB a = true ∧ ownB b = true ∧ ownB c = true := by
  unfold threeB at h
  simp only [Bool.and_eq_true] at h
  exact ⟨h.1.1.1.1.1, h.1.1.1.1.2, h.1.1.1.2⟩
theorem meetL_right {base imm n t u w : Int} (h : meetB base imm n t u w = true) : rightP (meetL base imm n t u w) = true := by
  unfold meetB at h
  simp only [Bool.and_eq_true, decide_eq_true_eq] at h
  obtain ⟨h1, h2, -, -, -, h3, h4, h5⟩ := h
  obtain ⟨a, b, c⟩ := threeB_in h1
  have hf' := fitsB_in h3
  refine rightP_app ?_ (rightP_app ?_ ?_)
  · rw [rightP_iff]
    intro k i hi
    rcases k with _ | _ | _ | k
    · cases hi; exact okAt_row .RI rfl (by decide) hf' (okr_own a) (okr_own h2) rfl (.inr rfl) (.inl (by decide))
    · cases hi; exact okAt_row .I rfl (by decide) (by constructor <;> simp) (okr_own b) rfl rfl (.inr rfl) (.inl (by decide))
    · cases hi; exact okAt_row .A rfl (by decide) (by constructor <;> simp) (okr_own b) (okr_own a) (okr_own b) (.inl rfl) (.inl (by decide))
    · simp at hi
  · unfold constF
    rw [if_pos c]
    exact constG_right c 6 151115727451828646838272 n (by decide) (by omega) (by omega)
  · rw [rightP_iff]
    intro k i hi
    rcases k with _ | _ | k
    · cases hi; exact okAt_row .L rfl (by decide) (by constructor <;> simp) (okr_own b) (okr_own a) rfl (.inl rfl) (.inl (by decide))
    · cases hi; exact okAt_row .B rfl (by decide) (by constructor <;> simp) rfl (okr_own b) (okr_own c) (.inr rfl) (.inr ⟨by simp, by simp⟩)
    · simp at hi
theorem unlike4 (d a b c : Int) : unlikeB [d, a, b, c] = (threeB a b c && (ownB d && ((d != a) && ((d != b) && (d != c))))) := by
  unfold unlikeB threeB
  rw [Bool.eq_iff_iff]
  simp only [List.nodup_cons, List.mem_cons, List.not_mem_nil, or_false, not_or, List.nodup_nil, not_false_eq_true, and_true, Bool.and_eq_true, decide_eq_true_eq, List.all_cons, List.all_nil, bne_iff_ne, ne_eq]
  constructor
  · rintro ⟨⟨⟨h1, h2, h3⟩, ⟨h4, h5⟩, h6⟩, h7, h8, h9, h10⟩; exact ⟨⟨⟨⟨⟨⟨h8, h9⟩, h10⟩, h4⟩, h6⟩, h5⟩, h7, h1, h2, h3⟩
  · rintro ⟨⟨⟨⟨⟨⟨h8, h9⟩, h10⟩, h4⟩, h6⟩, h5⟩, h7, h1, h2, h3⟩; exact ⟨⟨⟨h1, h2, h3⟩, ⟨h4, h5⟩, h6⟩, h7, h8, h9, h10⟩


set_option maxHeartbeats 4000000 in
set_option maxRecDepth 100000 in
theorem meet_any (base imm n t u x : Int) (w : World) : Calls Try.prog 31 #[.int .i64 base, .int .i64 imm, .int .i64 n, .agg #[.int .i64 t, .int .i64 u, .int .i64 x]] w (RetSl fun v w' => IsNew w w' v (meetF base imm n t u x)) := by
  have B0 := Blk.new w #[.int .i64 t, .int .i64 u, .int .i64 x] 34
  have A0 := Lib.hid ((Chg.refl NoB w).alloc (.cells #[.int .i64 t, .int .i64 u, .int .i64 x] 34))
  have x0 := B0.cell' (i := 0) (v := .int .i64 t) (by rfl)
  have x1 := B0.cell' (i := 1) (v := .int .i64 u) (by rfl)
  have x2 := B0.cell' (i := 2) (v := .int .i64 x) (by rfl)
  obtain ⟨b1, h1⟩ : ∃ y, threeB t u x = y := ⟨_, rfl⟩
  obtain ⟨b2, h2⟩ : ∃ y, ownB base = y := ⟨_, rfl⟩
  obtain ⟨b6, h6⟩ : ∃ y, fitsB imm = y := ⟨_, rfl⟩
  have hE : meetB base imm n t u x = (b1 && (b2 && ((base != t) && ((base != u) && ((base != x) && (b6 && (decide (1 ≤ n) && decide (n ≤ 1000000)))))))) := by unfold meetB; rw [h1, h2, h6]
  have HE := Lib.hid hE
  have H1 := Lib.hid h1
  have H2 := Lib.hid h2
  have H6 := Lib.hid h6
  clear hE h1 h2 h6 B0
  go_enter Try.func31, Try.ntmps31
  go_wp2_with fail
  go_quiet (fail)
  clear x0 x1 x2
  have AC := A0.out.drewN nq
  generalize (w.alloc (.cells #[.int .i64 t, .int .i64 u, .int .i64 x] 34)).drewN nq = w0 at AC ⊢
  replace A0 := Lib.hid AC
  clear AC
  go_wp2_with fail
  refine (three_any t u x _).mono ?_
  rintro e w1 ⟨rfl, rfl⟩
  rw [H1.out]
  cases b1
  ·
    go_wp2_with fail
    go_ret
    exact ⟨_, rfl, by rw [meetF_no (HE.out.trans (by simp))]; exact ⟨Own.nil _ _ _ _, A0.out⟩⟩
  · go_wp2_with fail
    refine (own_any base _).mono ?_
    rintro e w1 ⟨rfl, rfl⟩
    rw [H2.out]
    cases b2
    ·
      go_wp2_with fail
      go_ret
      exact ⟨_, rfl, by rw [meetF_no (HE.out.trans (by simp))]; exact ⟨Own.nil _ _ _ _, A0.out⟩⟩
    · cases e1 : base == t
      · cases e2 : base == u
        · cases e3 : base == x
          · have hq : (base != t) = true ∧ (base != u) = true ∧ (base != x) = true := by simp at e1 e2 e3; simp [e1, e2, e3]
            rw [hq.1, hq.2.1, hq.2.2] at HE
            clear hq
            go_wp2_with fail
            refine (fits_any imm _).mono ?_
            rintro e w1 ⟨rfl, rfl⟩
            rw [H6.out]
            cases b6
            ·
              go_wp2_with fail
              go_ret
              exact ⟨_, rfl, by rw [meetF_no (HE.out.trans (by simp))]; exact ⟨Own.nil _ _ _ _, A0.out⟩⟩
            · by_cases n1 : n < 1
              · have t1 : decide (n < 1) = true := by simp; omega
                have t1' : decide (1 ≤ n) = false := by simp; omega
                rw [t1'] at HE
                clear n1 t1'
                go_wp2_with fail
                go_ret
                exact ⟨_, rfl, by rw [meetF_no (HE.out.trans (by simp))]; exact ⟨Own.nil _ _ _ _, A0.out⟩⟩
              · have t1 : decide (n < 1) = false := by simp; omega
                have t1' : decide (1 ≤ n) = true := by simp; omega
                rw [t1'] at HE
                by_cases n2 : 1000000 < n
                · have t2 : decide (1000000 < n) = true := by simp; omega
                  have t2' : decide (n ≤ 1000000) = false := by simp; omega
                  rw [t2'] at HE
                  clear n1 n2 t1' t2'
                  go_wp2_with fail
                  go_ret
                  exact ⟨_, rfl, by rw [meetF_no (HE.out.trans (by simp))]; exact ⟨Own.nil _ _ _ _, A0.out⟩⟩
                · have t2 : decide (1000000 < n) = false := by simp; omega
                  have t2' : decide (n ≤ 1000000) = true := by simp; omega
                  rw [t2'] at HE
                  have m1 : 1 ≤ n := by omega
                  have m2 : n ≤ 1000000 := by omega
                  clear n1 n2 t1' t2'
                  have hs : sgn n = n := by unfold sgn; rw [if_pos (by omega)]
                  have HS := Lib.hid hs
                  have hu : n < U64 := by unfold U64; omega
                  have HU := Lib.hid hu
                  clear hs hu
                  have HB := Lib.hid (IsNew.fresh w0 [⟨2, t, base, 0, imm⟩, ⟨1, u, 0, 0, 1⟩, ⟨33, u, t, u, 0⟩] _ rfl 3 rfl (by omega))
                  have nb2 := IsNew.fresh (w0.alloc (.cells (icells [⟨2, t, base, 0, imm⟩, ⟨1, u, 0, 0, 1⟩, ⟨33, u, t, u, 0⟩]).toArray 32)) [⟨22, u, t, 0, 0⟩, ⟨17, 0, u, x, -1⟩] _ rfl 2 rfl (by omega)
                  have hz : (w0.alloc (.cells (icells [⟨2, t, base, 0, imm⟩, ⟨1, u, 0, 0, 1⟩, ⟨33, u, t, u, 0⟩]).toArray 32)).heap.size = w0.heap.size + 1 := by simp
                  have HP2 := Lib.hid (show PAt _ (.slice (some ⟨w0.heap.size + 1, 0, none⟩) 2 2) [⟨22, u, t, 0, 0⟩, ⟨17, 0, u, x, -1⟩] by have := nb2.at; rw [hz] at this; exact this)
                  have HC2 := Lib.hid nb2.2
                  clear nb2 hz
                  go_wp2_with fail
                  refine (const_any x n _ (by omega) HU.out).mono ?_
                  rintro e w2 ⟨v2, rfl, N2⟩
                  rw [HS.out] at N2
                  obtain ⟨p2, c2, e⟩ := N2.1.form
                  subst e
                  have HN2 := Lib.hid N2
                  have hlen := constF_len x n
                  clear N2
                  go_wp2_with fail
                  have hR := (HB.out.at.chg0 (HC2.out.step HN2.out.2)).rows (HN2.out.at.rows ((HP2.out.chg0 HN2.out.2).rows (PRows.nil _)))
                  refine (seq_rows _ _ _ hR _ rfl 3 rfl (by omega) (by simp; omega)).mono ?_
                  rintro e w4 ⟨v4, rfl, N4⟩
                  have HN4 := Lib.hid (show IsNew _ w4 v4 (meetL base imm n t u x) by simpa [meetL] using N4)
                  have HC := Lib.hid (A0.out.step ((HB.out.2.step HC2.out).step HN2.out.2))
                  clear N4 hR
                  go_wp2_with fail
                  go_ret
                  exact ⟨_, rfl, by rw [meetF_yes (HE.out.trans (by simp))]; exact HN4.out.from HC.out⟩
          · have hq : (base != x) = false := by simp at e3; simp [e3]
            rw [hq] at HE
            clear hq
            go_wp2_with fail
            go_ret
            exact ⟨_, rfl, by rw [meetF_no (HE.out.trans (by simp))]; exact ⟨Own.nil _ _ _ _, A0.out⟩⟩
        · have hq : (base != u) = false := by simp at e2; simp [e2]
          rw [hq] at HE
          clear hq
          go_wp2_with fail
          go_ret
          exact ⟨_, rfl, by rw [meetF_no (HE.out.trans (by simp))]; exact ⟨Own.nil _ _ _ _, A0.out⟩⟩
      · have hq : (base != t) = false := by simp at e1; simp [e1]
        rw [hq] at HE
        clear hq
        go_wp2_with fail
        go_ret
        exact ⟨_, rfl, by rw [meetF_no (HE.out.trans (by simp))]; exact ⟨Own.nil _ _ _ _, A0.out⟩⟩

theorem meetB_eq (base imm n t u x : Int) : meetB base imm n t u x = (unlikeB [base, t, u, x] && (fitsB imm && (decide (1 ≤ n) && decide (n ≤ 1000000)))) := by
  rw [unlike4]
  unfold meetB
  simp only [Bool.and_assoc]

set_option maxHeartbeats 4000000 in
set_option maxRecDepth 100000 in
theorem rmeet_any (base imm n t u x : Int) (w : World) : Calls Try.prog 32 #[.int .i64 base, .int .i64 imm, .int .i64 n, .agg #[.int .i64 t, .int .i64 u, .int .i64 x]] w (RetSl fun v w' => IsNew w w' v (meetF base imm n t u x)) := by
  have B0 := Blk.new w #[.int .i64 t, .int .i64 u, .int .i64 x] 34
  have A0 := Lib.hid ((Chg.refl NoB w).alloc (.cells #[.int .i64 t, .int .i64 u, .int .i64 x] 34))
  have x0 := B0.cell' (i := 0) (v := .int .i64 t) (by rfl)
  have x1 := B0.cell' (i := 1) (v := .int .i64 u) (by rfl)
  have x2 := B0.cell' (i := 2) (v := .int .i64 x) (by rfl)
  obtain ⟨b1, h1⟩ : ∃ y, unlikeB [base, t, u, x] = y := ⟨_, rfl⟩
  have hE := meetB_eq base imm n t u x
  rw [h1] at hE
  have HE := Lib.hid hE
  have H1 := Lib.hid h1
  clear hE h1 B0
  go_enter Try.func32, Try.ntmps32
  go_wp2_with fail
  go_quiet (fail)
  clear x0 x1 x2
  have AC := A0.out.drewN nq
  generalize (w.alloc (.cells #[.int .i64 t, .int .i64 u, .int .i64 x] 34)).drewN nq = w0 at AC ⊢
  replace A0 := Lib.hid AC
  clear AC
  have SU := Lib.hid (Sl.fresh (size := 1) w0 (([base, t, u, x] : List Int).map (Value.int .i64)) 3 4 rfl)
  have AU := (Chg.refl NoB w0).alloc (.cells #[.int .i64 base, .int .i64 t, .int .i64 u, .int .i64 x] 3)
  replace A0 := Lib.hid (A0.out.step AU)
  clear AU
  go_wp2_with fail
  refine (unlike_any _ _ [base, t, u, x] _ SU.out (by simp)).mono ?_
  rintro e w' ⟨rfl, rfl⟩
  rw [H1.out]
  cases b1
  ·
    go_wp2_with fail
    go_ret
    exact ⟨_, rfl, by rw [meetF_no (HE.out.trans (by simp))]; exact ⟨Own.nil _ _ _ _, A0.out⟩⟩
  · by_cases i1 : imm < -2048
    · have t1 : decide (imm < -2048) = true := by simp; omega
      have hf := fitsB_no (.inl i1)
      rw [hf] at HE
      clear i1 hf SU
      go_wp2_with fail
      go_ret
      exact ⟨_, rfl, by rw [meetF_no (HE.out.trans (by simp))]; exact ⟨Own.nil _ _ _ _, A0.out⟩⟩
    · have t1 : decide (imm < -2048) = false := by simp; omega
      by_cases i2 : 2047 < imm
      · have t2 : decide (2047 < imm) = true := by simp; omega
        have hf := fitsB_no (.inr i2)
        rw [hf] at HE
        clear i1 i2 hf SU
        go_wp2_with fail
        go_ret
        exact ⟨_, rfl, by rw [meetF_no (HE.out.trans (by simp))]; exact ⟨Own.nil _ _ _ _, A0.out⟩⟩
      · have t2 : decide (2047 < imm) = false := by simp; omega
        have hf := fitsB_yes (n := imm) (by omega) (by omega)
        rw [hf] at HE
        clear i1 i2 hf SU
        by_cases n1 : n < 1
        · have t3 : decide (n < 1) = true := by simp; omega
          have t3' : decide (1 ≤ n) = false := by simp; omega
          rw [t3'] at HE
          clear n1 t3'
          go_wp2_with fail
          go_ret
          exact ⟨_, rfl, by rw [meetF_no (HE.out.trans (by simp))]; exact ⟨Own.nil _ _ _ _, A0.out⟩⟩
        · have t3 : decide (n < 1) = false := by simp; omega
          have t3' : decide (1 ≤ n) = true := by simp; omega
          rw [t3'] at HE
          by_cases n2 : 1000000 < n
          · have t4 : decide (1000000 < n) = true := by simp; omega
            have t4' : decide (n ≤ 1000000) = false := by simp; omega
            rw [t4'] at HE
            clear n1 n2 t3' t4'
            go_wp2_with fail
            go_ret
            exact ⟨_, rfl, by rw [meetF_no (HE.out.trans (by simp))]; exact ⟨Own.nil _ _ _ _, A0.out⟩⟩
          · have t4 : decide (1000000 < n) = false := by simp; omega
            have t4' : decide (n ≤ 1000000) = true := by simp; omega
            rw [t4'] at HE
            have m1 : 1 ≤ n := by omega
            have m2 : n ≤ 1000000 := by omega
            clear n1 n2 t3' t4'
            have hs : sgn n = n := by unfold sgn; rw [if_pos (by omega)]
            have HS := Lib.hid hs
            have hu : n < U64 := by unfold U64; omega
            have HU := Lib.hid hu
            clear hs hu
            go_wp2_with fail
            refine (one_any _ _ _ _ _ _).mono ?_
            rintro e w1 ⟨v1, rfl, N1⟩
            obtain ⟨p1, c1, e⟩ := N1.1.form
            subst e
            have HN1 := Lib.hid N1
            clear N1
            go_wp2_with fail
            refine (one_any _ _ _ _ _ _).mono ?_
            rintro e w2 ⟨v2, rfl, N2⟩
            obtain ⟨p2, c2, e⟩ := N2.1.form
            subst e
            have HN2 := Lib.hid N2
            clear N2
            go_wp2_with fail
            refine (one_any _ _ _ _ _ _).mono ?_
            rintro e w3 ⟨v3, rfl, N3⟩
            obtain ⟨p3, c3, e⟩ := N3.1.form
            subst e
            have HN3 := Lib.hid N3
            clear N3
            go_wp2_with fail
            refine (rconst_any x n _ (by omega) HU.out).mono ?_
            rintro e w4 ⟨v4, rfl, N4⟩
            rw [HS.out] at N4
            obtain ⟨p4, c4, e⟩ := N4.1.form
            subst e
            have HN4 := Lib.hid N4
            have hlen := constF_len x n
            clear N4
            go_wp2_with fail
            refine (one_any _ _ _ _ _ _).mono ?_
            rintro e w5 ⟨v5, rfl, N5⟩
            obtain ⟨p5, c5, e⟩ := N5.1.form
            subst e
            have HN5 := Lib.hid N5
            clear N5
            go_wp2_with fail
            refine (one_any _ _ _ _ _ _).mono ?_
            rintro e w6 ⟨v6, rfl, N6⟩
            obtain ⟨p6, c6, e⟩ := N6.1.form
            subst e
            have HN6 := Lib.hid N6
            clear N6
            go_wp2_with fail
            have C56 := HN5.out.2.step HN6.out.2
            have C46 := HN4.out.2.step C56
            have C36 := HN3.out.2.step C46
            have C26 := HN2.out.2.step C36
            have hR := (HN1.out.at.chg0 C26).rows ((HN2.out.at.chg0 C36).rows ((HN3.out.at.chg0 C46).rows ((HN4.out.at.chg0 C56).rows ((HN5.out.at.chg0 HN6.out.2).rows (HN6.out.at.rows (PRows.nil _))))))
            refine (join_rows _ _ _ hR _ rfl 6 rfl (by omega) (by simp; omega)).mono ?_
            rintro e w7 ⟨v7, rfl, N7⟩
            have hY := HE.out.trans (show (true && (true && (true && true))) = true by rfl)
            have hML : madeF (meetL base imm n t u x) = meetF base imm n t u x := by rw [meetF_yes hY]; unfold madeF; rw [if_pos (meetL_right hY)]
            have HN7 := Lib.hid (show IsNew w6 w7 v7 (meetF base imm n t u x) by rw [← hML]; simpa [meetL] using N7)
            have HC := Lib.hid (A0.out.step (HN1.out.2.step C26))
            clear N7 hR hY hML C56 C46 C36 C26
            go_wp2_with fail
            go_ret
            exact ⟨_, rfl, HN7.out.from HC.out⟩
end Go.Proofs.Ytdkplhdinklflaa
