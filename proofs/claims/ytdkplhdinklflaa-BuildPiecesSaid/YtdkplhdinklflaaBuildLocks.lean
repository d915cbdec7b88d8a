/- BuildLocks returns true, whatever it is given. -/
import Derived.Test.YtdkplhdinklflaaBuildFirst
set_option linter.unusedVariables false
namespace Go.Proofs.Ytdkplhdinklflaa
open Go.RowKit Go.RR

theorem icells_cut (l : List In) (k : Nat) (hk : k ≤ l.length) : icells l = icells (l.take k) ++ icells (l.drop k) ∧ (icells (l.take k)).length = k * 5 :=
  ⟨by rw [← icells_app, List.take_append_drop], by rw [icells_len, List.length_take, Nat.min_eq_left hk]⟩
theorem icells_take (l : List In) (k : Nat) (hk : k ≤ l.length) : icells (l.take k) = (icells l).take (k * 5) := by
  obtain ⟨h1, h2⟩ := icells_cut l k hk
  rw [h1, List.take_append_of_le_length (by omega)]
  exact (List.take_of_length_le (by omega)).symm
theorem icells_drop (l : List In) (k : Nat) (hk : k ≤ l.length) : icells (l.drop k) = (icells l).drop (k * 5) := by
  obtain ⟨h1, h2⟩ := icells_cut l k hk
  rw [h1, List.drop_append_of_le_length (by omega)]
  rw [List.drop_of_length_le (l := icells (l.take k)) (by omega), List.nil_append]
theorem PAt.take {w : World} {p : Option Addr} {c : Nat} {l : List In} {n : Nat} (h : PAt w (.slice p n c) l) (k : Nat) (hk : k ≤ l.length) : PAt w (.slice p k c) (l.take k) := by
  obtain ⟨S, h1, p', cap, e, hc, hs⟩ := h
  cases e
  have hl : (l.take k).length = k := by rw [List.length_take]; omega
  refine ⟨S, by rw [icells_len], p, c, by rw [hl], by rw [hl]; omega, fun h0 => ?_⟩
  obtain ⟨g, of, hp, hS, hg, hcell⟩ := hs (by omega)
  refine ⟨g, of, hp, hS, hg, fun j u hu => hcell j u ?_⟩
  rw [icells_take l k hk, List.getElem?_take] at hu
  split at hu
  · exact hu
  · cases hu
theorem PAt.drop {w : World} {g of c : Nat} {l : List In} {n : Nat} (h : PAt w (.slice (some ⟨g, of, none⟩) n c) l) (k m d : Nat) (hm : k + m = l.length) (hd : k + d = c) : PAt w (.slice (some ⟨g, of + k * 5, none⟩) m d) (l.drop k) := by
  obtain ⟨S, h1, p', cap, e, hc, hs⟩ := h
  cases e
  have hl : (l.drop k).length = m := by rw [List.length_drop]; omega
  refine ⟨S, by rw [icells_len], _, d, by rw [hl], by rw [hl]; omega, fun h0 => ?_⟩
  rw [hl] at h0
  obtain ⟨g', of', hp, hS, hg, hcell⟩ := hs (by omega)
  cases hp
  refine ⟨g, of + k * 5, rfl, hS, hg, fun j u hu => ?_⟩
  rw [icells_drop l k (by omega), List.getElem?_drop] at hu
  rw [Nat.add_assoc]
  exact hcell _ u hu

def mayB (base imm : Int) : Bool := decide (1 ≤ base) && (decide (base ≤ 15) && (decide (-2048 ≤ imm) && decide (imm ≤ 2047)))
theorem mayB_eq (base imm : Int) : mayB base imm = (ownB base && fitsB imm) := by
  unfold mayB ownB fitsB
  rw [Bool.eq_iff_iff]; simp; omega



set_option maxHeartbeats 4000000 in
set_option maxRecDepth 100000 in
theorem buildLocks_any (base imm t u : Int) (v : Value) (p : List In) (w : World) (hp : PAt w v p) (hl : p.length ≤ 9223372036854775807) : Calls Try.prog 3 #[.agg #[.int .i64 base, .int .i64 imm, .int .i64 t, .int .i64 u], v] w (RetW (.bool true) fun w' => Chg NoB w w') := by
  obtain ⟨pp, pc, rfl⟩ := hp.form
  have HP := Lib.hid hp
  have B0 := Lib.hid (Blk.new w #[.int .i64 base, .int .i64 imm, .int .i64 t, .int .i64 u] 22)
  have A0 := Lib.hid ((Chg.refl NoB w).alloc (.cells #[.int .i64 base, .int .i64 imm, .int .i64 t, .int .i64 u] 22))
  clear hp
  go_enter Try.func3, Try.ntmps3
  go_wp2_with fail
  refine (first39_any _).mono ?_
  rintro e w1 ⟨rfl, C1⟩
  have B1 := C1.blk0 B0.out
  have HC1 := Lib.hid (A0.out.step C1)
  have x0 := B1.cell' (i := 0) (v := .int .i64 base) (by rfl)
  have x1 := B1.cell' (i := 1) (v := .int .i64 imm) (by rfl)
  have x2 := B1.cell' (i := 2) (v := .int .i64 t) (by rfl)
  have x3 := B1.cell' (i := 3) (v := .int .i64 u) (by rfl)
  clear C1 B1 B0 A0
  go_wp2_with fail
  refine (few_any _ _ _ _ hl).mono ?_
  rintro e w' ⟨rfl, rfl⟩
  by_cases hfew : p.length ≤ 200
  · rw [decide_eq_true hfew]
    clear hl
    go_wp2_with fail
    go_quiet (fail)
    clear x0 x1 x2 x3
    go_wp2_with fail
    refine (rlock_any base imm t u _).mono ?_
    rintro e w2 ⟨v2, rfl, N2⟩
    obtain ⟨b4, h4⟩ : ∃ x, rightP p = x := ⟨_, rfl⟩
    have H4 := Lib.hid h4
    clear h4
    by_cases hb : lockB base imm t u = true
    · have hA : lockF base imm t u = lockL base imm t u := by unfold lockF; rw [if_pos hb]
      rw [hA] at N2
      obtain ⟨p2, c2, e⟩ := N2.1.form
      rw [show (lockL base imm t u).length = 4 from rfl] at e
      subst e
      have HN2 := Lib.hid N2
      obtain ⟨o1, o2, o3, o4⟩ := lockB_in hb
      have hU := unlockF_yes o1 o4
      have HB := Lib.hid hb
      have hm : mayB base imm = true := by rw [mayB_eq, o1, o4]; rfl
      unfold mayB at hm
      simp only [Bool.and_eq_true] at hm
      obtain ⟨d1, d2, d3, d4⟩ := hm
      have k1 : ∀ w : World, (Op.equalIn 10000 32 (.agg #[.int .i64 29, .int .i64 0, .int .i64 base, .int .i64 0, .int .i64 imm]) (.agg #[.int .i64 29, .int .i64 0, .int .i64 base, .int .i64 0, .int .i64 imm])).run Try.prog w = .ok true w := fun w => (ins_eq ⟨29, 0, base, 0, imm⟩ ⟨29, 0, base, 0, imm⟩ w).trans (by simp)
      have k2 := eq_guard
      clear N2 hA hb o1 o2 o3 o4
      cases b4
      · go_wp2_with fail
        refine (within_any base imm t u _ p _ (HP.out.chg0 ((HC1.out.drewN nq).step HN2.out.2)) (by omega)).mono ?_
        rintro e w3 ⟨v3, rfl, N3⟩
        rw [withinF_no (.inr H4.out)] at N3
        obtain ⟨p3, c3, e⟩ := N3.1.form
        rw [List.length_nil] at e
        subst e
        have HN3 := Lib.hid N3
        clear N3
        -- from Unlock to the test behind the comparison of Lock; one instruction unlocks
        go_wp2_with fail
        refine (unlock_any base imm _).mono ?_
        rintro e w4 ⟨v4, rfl, N4⟩
        rw [hU] at N4
        obtain ⟨p4, c4, rfl, hI⟩ := InsAt.of N4.1.sl (by simp)
        obtain ⟨g4, f4, rfl, hg4, y0, y1, y2, y3, y4⟩ := hI.at (n := 0) rfl
        have hc4 := hI.cap
        simp only [Nat.zero_mul, Nat.add_zero, List.length_cons, List.length_nil, Nat.zero_add] at y0 y1 y2 y3 y4 hc4 ⊢
        have HN4 := Lib.hid N4
        clear N4 hI hU
        go_wp2_with fail
        refine (lock_yes base imm t u _ HB.out).mono ?_
        rintro e w5 ⟨v5, rfl, ⟨a5, rfl⟩, N5⟩
        have HN5 := Lib.hid N5
        clear N5
        go_wp2_with fail
        refine (same_any _ _ _ _ (lockL base imm t u) (lockL base imm t u) _ HN5.out.1.sl (HN2.out.1.sl.chg0 ((HN3.out.2.step HN4.out.2).step HN5.out.2)) (by simp [lockL]) (by simp [lockL])).mono ?_
        rintro e w6 ⟨rfl, C6⟩
        rw [decide_eq_true rfl]
        have C46 := HN5.out.2.step C6
        replace y0 := C46.cell y0 id
        replace y1 := C46.cell y1 id
        replace y2 := C46.cell y2 id
        replace y3 := C46.cell y3 id
        replace y4 := C46.cell y4 id
        have HC6 := Lib.hid (((((HC1.out.drewN nq).step HN2.out.2).step HN3.out.2).step HN4.out.2).step C46)
        have HC36 := Lib.hid (HN4.out.2.step C46)
        clear C6 C46
        go_wp2_with fail
        go_wp2_with fail
        refine (rright39_any _ _ p _ (HP.out.chg0 HC6.out).choose_spec (by omega)).mono ?_
        rintro e w7 ⟨rfl, C7⟩
        rw [H4.out]
        have HC7 := Lib.hid (HC6.out.step C7)
        clear C7
        go_wp2_with fail
        go_ret
        exact ⟨rfl, HC7.out⟩
      · go_wp2_with fail
        refine (within_any base imm t u _ p _ (HP.out.chg0 ((HC1.out.drewN nq).step HN2.out.2)) (by omega)).mono ?_
        rintro e w3 ⟨v3, rfl, N3⟩
        have hR := withinF_right HB.out H4.out
        have hW := withinF_yes HB.out H4.out
        have hWl : (withinF base imm t u p).length = p.length + 5 := by rw [hW, hU]; simp [lockL]
        have HW := Lib.hid (And.intro hW (And.intro hWl hR))
        obtain ⟨p3, c3, e, hI3⟩ := InsAt.of N3.1.sl (by omega)
        rw [hWl] at e
        subst e
        obtain ⟨g3, f3, rfl, -, -⟩ := hI3.spot (by omega)
        have hc3 := hI3.cap
        rw [hWl] at hc3
        have hne : ¬ c3 = 4 := by omega
        have HN3 := Lib.hid N3
        clear N3 hR hW hWl hI3
        -- from Unlock to the test behind the comparison of Lock; one instruction unlocks
        go_wp2_with fail
        refine (unlock_any base imm _).mono ?_
        rintro e w4 ⟨v4, rfl, N4⟩
        rw [hU] at N4
        obtain ⟨p4, c4, rfl, hI⟩ := InsAt.of N4.1.sl (by simp)
        obtain ⟨g4, f4, rfl, hg4, y0, y1, y2, y3, y4⟩ := hI.at (n := 0) rfl
        have hc4 := hI.cap
        simp only [Nat.zero_mul, Nat.add_zero, List.length_cons, List.length_nil, Nat.zero_add] at y0 y1 y2 y3 y4 hc4 ⊢
        have HN4 := Lib.hid N4
        clear N4 hI hU
        go_wp2_with fail
        refine (lock_yes base imm t u _ HB.out).mono ?_
        rintro e w5 ⟨v5, rfl, ⟨a5, rfl⟩, N5⟩
        have HN5 := Lib.hid N5
        clear N5
        go_wp2_with fail
        refine (same_any _ _ _ _ (lockL base imm t u) (lockL base imm t u) _ HN5.out.1.sl (HN2.out.1.sl.chg0 ((HN3.out.2.step HN4.out.2).step HN5.out.2)) (by simp [lockL]) (by simp [lockL])).mono ?_
        rintro e w6 ⟨rfl, C6⟩
        rw [decide_eq_true rfl]
        have C46 := HN5.out.2.step C6
        replace y0 := C46.cell y0 id
        replace y1 := C46.cell y1 id
        replace y2 := C46.cell y2 id
        replace y3 := C46.cell y3 id
        replace y4 := C46.cell y4 id
        have HC6 := Lib.hid (((((HC1.out.drewN nq).step HN2.out.2).step HN3.out.2).step HN4.out.2).step C46)
        have HC36 := Lib.hid (HN4.out.2.step C46)
        clear C6 C46
        go_wp2_with fail
        go_wp2_with fail
        refine (rright39_any _ _ p _ (HP.out.chg0 HC6.out).choose_spec (by omega)).mono ?_
        rintro e w7 ⟨rfl, C7⟩
        rw [H4.out]
        have HC7 := Lib.hid (HC6.out.step C7)
        have HC67 := Lib.hid C7
        clear C7
        go_wp2_with fail
        have hQ : PAt w7 (.slice (some ⟨g3, f3, none⟩) (p.length + 5) c3) (withinF base imm t u p) := (HN3.out.at.chg0 HC36.out).chg0 (HC67.out)
        have HQ := Lib.hid hQ
        have hT : (withinF base imm t u p).take 4 = lockL base imm t u := by rw [HW.out.1]; rfl
        have hlt : ((withinF base imm t u p).take 4).length = 4 := by rw [hT]; rfl
        have hS := (hQ.take 4 (by have := HW.out.2.1; omega)).choose_spec
        refine (same_any _ _ _ _ ((withinF base imm t u p).take 4) (lockL base imm t u) _ hS (HN2.out.1.sl.chg0 ((HN3.out.2.step HC36.out).step HC67.out)) (by omega) (by simp [lockL])).mono ?_
        rintro e w8 ⟨rfl, C8⟩
        rw [decide_eq_true hT]
        have HC8 := Lib.hid C8
        clear C8 hQ hT hlt hS
        go_wp2_with fail
        have hD := ((HQ.out.chg0 HC8.out).drop 4 (p.length + 1) (c3 - 4) (by have := HW.out.2.1; omega) (by omega)).take p.length (by rw [List.length_drop]; have := HW.out.2.1; omega)
        have hDp : ((withinF base imm t u p).drop 4).take p.length = p := by
          rw [HW.out.1]
          show (p ++ unlockF base imm).take p.length = p
          simp
        rw [hDp] at hD
        refine (same_any _ _ _ _ p p _ hD.choose_spec (HP.out.chg0 (HC7.out.step HC8.out)).choose_spec (by omega) (by omega)).mono ?_
        rintro e w9 ⟨rfl, C9⟩
        rw [decide_eq_true rfl]
        have HC9 := Lib.hid (HC8.out.step C9)
        clear C9 hD hDp
        go_wp2_with fail
        refine (bright_any _ _ (withinF base imm t u p) _ (HQ.out.chg0 HC9.out).choose_spec (by have := HW.out.2.1; omega)).mono ?_
        rintro e w10 ⟨rfl, C10⟩
        rw [HW.out.2.2]
        have HC10 := Lib.hid (HC9.out.step C10)
        clear C10
        go_wp2_with fail
        go_ret
        exact ⟨rfl, HC7.out.step HC10.out⟩
    · have hb' : lockB base imm t u = false := by simpa using hb
      have hA : lockF base imm t u = [] := by unfold lockF; rw [if_neg hb]
      rw [hA] at N2
      obtain ⟨p2, c2, e⟩ := N2.1.form
      rw [List.length_nil] at e
      subst e
      have HN2 := Lib.hid N2
      have HB := Lib.hid hb'
      clear N2 hA hb hb'
      go_wp2_with fail
      refine (within_any base imm t u _ p _ (HP.out.chg0 ((HC1.out.drewN nq).step HN2.out.2)) (by omega)).mono ?_
      rintro e w3 ⟨v3, rfl, N3⟩
      rw [withinF_no (.inl HB.out)] at N3
      obtain ⟨p3, c3, e⟩ := N3.1.form
      rw [List.length_nil] at e
      subst e
      have HN3 := Lib.hid N3
      clear N3
      go_wp2_with fail
      refine (unlock_any base imm _).mono ?_
      rintro e w4 ⟨v4, rfl, N4⟩
      obtain ⟨bm, hm⟩ : ∃ b, mayB base imm = b := ⟨_, rfl⟩
      have hm2 := mayB_eq base imm
      rw [hm] at hm2
      cases bm
      · rw [unlockF_no hm2.symm] at N4
        obtain ⟨p4, c4, e⟩ := N4.1.form
        rw [List.length_nil] at e
        subst e
        have HN4 := Lib.hid N4
        unfold mayB at hm
        clear N4 hm2
        cases d1 : decide (1 ≤ base)
        · clear hm
          go_wp2_with fail
          refine (lock_no base imm t u _ HB.out).mono ?_
          rintro e w5 ⟨rfl, rfl⟩
          go_wp2_with fail
          refine (same_any NoB _ _ _ [] [] _ (Sl.nil _ _ _) (HN2.out.1.sl.chg0 (HN3.out.2.step HN4.out.2)) (by simp) (by simp)).mono ?_
          rintro e w6 ⟨rfl, C6⟩
          rw [decide_eq_true rfl]
          have HC6 := Lib.hid C6
          clear C6
          go_wp2_with fail
          go_ret
          exact ⟨rfl, ((((HC1.out.drewN nq).step HN2.out.2).step HN3.out.2).step HN4.out.2).step HC6.out⟩
        · cases d2 : decide (base ≤ 15)
          · clear hm
            go_wp2_with fail
            refine (lock_no base imm t u _ HB.out).mono ?_
            rintro e w5 ⟨rfl, rfl⟩
            go_wp2_with fail
            refine (same_any NoB _ _ _ [] [] _ (Sl.nil _ _ _) (HN2.out.1.sl.chg0 (HN3.out.2.step HN4.out.2)) (by simp) (by simp)).mono ?_
            rintro e w6 ⟨rfl, C6⟩
            rw [decide_eq_true rfl]
            have HC6 := Lib.hid C6
            clear C6
            go_wp2_with fail
            go_ret
            exact ⟨rfl, ((((HC1.out.drewN nq).step HN2.out.2).step HN3.out.2).step HN4.out.2).step HC6.out⟩
          · cases d3 : decide (-2048 ≤ imm)
            · clear hm
              go_wp2_with fail
              refine (lock_no base imm t u _ HB.out).mono ?_
              rintro e w5 ⟨rfl, rfl⟩
              go_wp2_with fail
              refine (same_any NoB _ _ _ [] [] _ (Sl.nil _ _ _) (HN2.out.1.sl.chg0 (HN3.out.2.step HN4.out.2)) (by simp) (by simp)).mono ?_
              rintro e w6 ⟨rfl, C6⟩
              rw [decide_eq_true rfl]
              have HC6 := Lib.hid C6
              clear C6
              go_wp2_with fail
              go_ret
              exact ⟨rfl, ((((HC1.out.drewN nq).step HN2.out.2).step HN3.out.2).step HN4.out.2).step HC6.out⟩
            · cases d4 : decide (imm ≤ 2047)
              · clear hm
                go_wp2_with fail
                refine (lock_no base imm t u _ HB.out).mono ?_
                rintro e w5 ⟨rfl, rfl⟩
                go_wp2_with fail
                refine (same_any NoB _ _ _ [] [] _ (Sl.nil _ _ _) (HN2.out.1.sl.chg0 (HN3.out.2.step HN4.out.2)) (by simp) (by simp)).mono ?_
                rintro e w6 ⟨rfl, C6⟩
                rw [decide_eq_true rfl]
                have HC6 := Lib.hid C6
                clear C6
                go_wp2_with fail
                go_ret
                exact ⟨rfl, ((((HC1.out.drewN nq).step HN2.out.2).step HN3.out.2).step HN4.out.2).step HC6.out⟩
              · rw [d1, d2, d3, d4] at hm
                cases hm
      · have hu := hm2.symm
        rw [Bool.and_eq_true] at hu
        rw [unlockF_yes hu.1 hu.2] at N4
        obtain ⟨p4, c4, rfl, hI⟩ := InsAt.of N4.1.sl (by simp)
        obtain ⟨g4, f4, rfl, hg4, y0, y1, y2, y3, y4⟩ := hI.at (n := 0) rfl
        have hc4 := hI.cap
        simp only [Nat.zero_mul, Nat.add_zero, List.length_cons, List.length_nil, Nat.zero_add] at y0 y1 y2 y3 y4 hc4 ⊢
        have HN4 := Lib.hid N4
        unfold mayB at hm
        simp only [Bool.and_eq_true] at hm
        obtain ⟨d1, d2, d3, d4⟩ := hm
        have k1 : ∀ w : World, (Op.equalIn 10000 32 (.agg #[.int .i64 29, .int .i64 0, .int .i64 base, .int .i64 0, .int .i64 imm]) (.agg #[.int .i64 29, .int .i64 0, .int .i64 base, .int .i64 0, .int .i64 imm])).run Try.prog w = .ok true w := fun w => (ins_eq ⟨29, 0, base, 0, imm⟩ ⟨29, 0, base, 0, imm⟩ w).trans (by simp)
        have k2 := eq_guard
        clear N4 hm2 hu hI
        go_wp2_with fail
        refine (lock_no base imm t u _ HB.out).mono ?_
        rintro e w5 ⟨rfl, rfl⟩
        go_wp2_with fail
        refine (same_any NoB _ _ _ [] [] _ (Sl.nil _ _ _) (HN2.out.1.sl.chg0 (HN3.out.2.step HN4.out.2)) (by simp) (by simp)).mono ?_
        rintro e w6 ⟨rfl, C6⟩
        rw [decide_eq_true rfl]
        replace y0 := C6.cell y0 id
        replace y1 := C6.cell y1 id
        replace y2 := C6.cell y2 id
        replace y3 := C6.cell y3 id
        replace y4 := C6.cell y4 id
        have HC6 := Lib.hid C6
        clear C6
        go_wp2_with fail
        go_ret
        exact ⟨rfl, ((((HC1.out.drewN nq).step HN2.out.2).step HN3.out.2).step HN4.out.2).step HC6.out⟩
  · rw [decide_eq_false hfew]
    go_wp2_with fail
    go_ret
    exact ⟨rfl, HC1.out⟩
end Go.Proofs.Ytdkplhdinklflaa
