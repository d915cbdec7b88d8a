/- A region that draws its order, by a list of steps, where operations may be guarded: one that is not wanted yields nothing. No condition. BuildConsts returns true, whatever it is given. -/
import Derived.Test.YthceikgkaellkaaGreatGe
import Derived.Test.YthceikgkaellkaaGreatHs
import Derived.Test.YthceikgkaellkaaGreatHt
set_option linter.unusedVariables false
namespace Go.RR
open Go.RowKit
section
variable {P : Program} {ops : Array Oper} {md : Region.Mode} {S : World → Prop} {Q : Exit → Act → World → Prop}
theorem wpMix_on {R : Act → World → Prop} {o : Oper} {l : List (Bool × Oper)} {a : Act} {w : World} (hg : Region.wanted o (yielded ops a.tmps) = true) (h : ∃ v, (∀ w, S w → (execOp a.eval o).run P w = .ok (.value v) w) ∧ wpMix P ops Q S R l (a.put o.dst v) w) : wpMix P ops Q S R ((true, o) :: l) a w :=
  ⟨h.choose, .inl ⟨hg, h.choose_spec.1⟩, h.choose_spec.2⟩
theorem wpMix_off {R : Act → World → Prop} {o : Oper} {l : List (Bool × Oper)} {a : Act} {w : World} (hg : Region.wanted o (yielded ops a.tmps) = false) (h : wpMix P ops Q S R l (a.put o.dst undef) w) : wpMix P ops Q S R ((true, o) :: l) a w :=
  ⟨_, .inr ⟨hg, rfl⟩, h⟩
theorem wpMix_onForce {R : Act → World → Prop} {o : Oper} {l : List (Bool × Oper)} {a : Act} {w : World} (hg : Region.wanted o (yielded ops a.tmps) = true)
    (h : ∀ K : Act → World → Prop, (∀ a' w', S w' → wpMix P ops Q S R l a' w' → K a' w') → o.wp P a w K Q) : wpMix P ops Q S R ((false, o) :: l) a w := by
  unfold wpMix
  rw [if_pos hg]
  exact h _ fun a' w' h1 h2 => ⟨h1, h2⟩
theorem wpMix_offForce {R : Act → World → Prop} {o : Oper} {l : List (Bool × Oper)} {a : Act} {w : World} (hg : Region.wanted o (yielded ops a.tmps) = false) (hS : S w)
    (h : wpMix P ops Q S R l (a.put o.dst undef) w) : wpMix P ops Q S R ((false, o) :: l) a w := by
  unfold wpMix
  rw [if_neg (by rw [hg]; decide)]
  exact ⟨hS, h⟩
end
end Go.RR
set_option linter.unusedVariables false
set_option linter.unusedSimpArgs false
namespace Go.Proofs.YthceikgkaellkaaGreat
open Go.RowKit Go.RR

theorem chain16 (w : World) (g : Nat) (v0 v1 v2 v3 v4 v5 v6 v7 v8 v9 v10 v11 v12 v13 v14 v15 : Value) : ((((((((((((((((w.setCell ⟨g, 0, none⟩ v0).setCell ⟨g, 1, none⟩ v1).setCell ⟨g, 2, none⟩ v2).setCell ⟨g, 3, none⟩ v3).setCell ⟨g, 4, none⟩ v4).setCell ⟨g, 5, none⟩ v5).setCell ⟨g, 6, none⟩ v6).setCell ⟨g, 7, none⟩ v7).setCell ⟨g, 8, none⟩ v8).setCell ⟨g, 9, none⟩ v9).setCell ⟨g, 10, none⟩ v10).setCell ⟨g, 11, none⟩ v11).setCell ⟨g, 12, none⟩ v12).setCell ⟨g, 13, none⟩ v13).setCell ⟨g, 14, none⟩ v14).setCell ⟨g, 15, none⟩ v15) = w.setCells g 0 [v0, v1, v2, v3, v4, v5, v6, v7, v8, v9, v10, v11, v12, v13, v14, v15] := rfl
set_option maxHeartbeats 4000000 in
set_option maxRecDepth 100000 in
theorem buildConsts_any (rd v rs : Int) (w : World) (h0 : 0 ≤ v) (h1 : v < U64) : Calls Tryz.prog 5 #[.int .i64 rd, .int .u64 v, .int .i64 rs] w (RetW (.bool true) fun w' => Chg NoB w w') := by
  obtain ⟨l2, hl2⟩ : ∃ l, constF rd (sgn v) = l := ⟨_, rfl⟩
  obtain ⟨l3, hl3⟩ : ∃ l, moveF rd rs = l := ⟨_, rfl⟩
  have HZ := Lib.hid (And.intro h0 h1)
  have HL2 := Lib.hid hl2
  have HL3 := Lib.hid hl3
  have HLen2 : Hid (l2.length ≤ 13) := Lib.hid (hl2 ▸ constF_len rd (sgn v))
  have HLen3 : Hid (l3.length ≤ 1) := Lib.hid (hl3 ▸ moveF_len rd rs)
  cases hr : ownB rd with
  | false =>
    have n3 : l3.length = 0 := by rw [← hl3]; unfold moveF; rw [hr]; rfl
    have n2 : l2.length = 0 := by rw [← hl2]; unfold constF; rw [hr]; rfl
    have t8 : ((l3.length : Int) == 1) = false := by rw [n3]; rfl
    have t9 : ((l2.length : Int) == 0) = true := by rw [n2]; rfl
    have hor : (decide (0 < rd) = false ∧ decide (rd < 1) = true) ∨ (decide (0 < rd) = true ∧ decide (rd < 16) = false ∧ decide (rd < 1) = false ∧ decide (15 < rd) = true) := by
      unfold ownB at hr
      simp only [Bool.and_eq_false_iff, decide_eq_false_iff_not, decide_eq_true_eq] at hr ⊢
      omega
    clear hr n2 n3 h0 h1 hl2 hl3
    rcases hor with ⟨t1, t2⟩ | ⟨t1, t2, t3, t4⟩
    all_goals
      go_enter Tryz.func5, Tryz.ntmps5
      go_wp2_with fail
      refine (first39_any _).mono ?_
      rintro e w1 ⟨rfl, C1⟩
      have HC1 := Lib.hid C1
      go_wp2_with fail
      refine (const_any _ v _ HZ.out.1 HZ.out.2).mono ?_
      rintro e w2 ⟨v2, rfl, N2⟩
      rw [HL2.out] at N2
      obtain ⟨p2, c2, rfl, -⟩ := InsAt.of N2.1.sl (by have := HLen2.out; omega)
      have HN2 := Lib.hid N2
      clear C1 N2
      go_wp2_with fail
      refine (move_any _ _ _).mono ?_
      rintro e w3 ⟨v3, rfl, N3⟩
      rw [HL3.out] at N3
      obtain ⟨p3, c3, rfl, -⟩ := InsAt.of N3.1.sl (by have := HLen3.out; omega)
      have HN3 := Lib.hid N3
      clear N3
      go_wp2_with fail
      refine (rconst_any _ v _ HZ.out.1 HZ.out.2).mono ?_
      rintro e w4 ⟨v4, rfl, N4⟩
      rw [HL2.out] at N4
      have HN4 := Lib.hid N4
      clear N4
      go_wp2_with fail
      refine (same_any _ _ _ _ l2 l2 _ (HN2.out.1.sl.chg0 (HN3.out.2.step HN4.out.2)) HN4.out.1.sl (by have := HLen2.out; omega) (by have := HLen2.out; omega)).mono ?_
      rintro e w5 ⟨rfl, C5⟩
      rw [decide_eq_true rfl]
      have HC5 : Hid (Chg NoB w w5) := Lib.hid ((((HC1.out.step HN2.out.2).step HN3.out.2).step HN4.out.2).step C5)
      have HS2 := Lib.hid (HN2.out.1.sl.chg0 ((HN3.out.2.step HN4.out.2).step C5))
      have HS3 := Lib.hid (HN3.out.1.sl.chg0 (HN4.out.2.step C5))
      clear C5 HC1 HN2 HN3 HN4
      go_wp2_with fail
      go_ret
      exact ⟨rfl, HC5.out⟩
  | true =>
    obtain ⟨r, rfl⟩ := Int.eq_ofNat_of_zero_le (by have := ownB_in hr; omega : 0 ≤ rd)
    obtain ⟨v, rfl⟩ := Int.eq_ofNat_of_zero_le h0
    have hr15 : 1 ≤ r ∧ r ≤ 15 := by have := ownB_in hr; omega
    have HRR := Lib.hid hr15
    have HR := Lib.hid hr
    have n3 : ∀ b, regB rs = b → ((l3.length : Int) == 1) = b := fun b hb => by
      rw [← hl3]; unfold moveF; rw [hr, hb]
      cases b <;> rfl
    have n2 : ((l2.length : Int) == 0) = false := by
      have := constF_nil r (sgn v)
      rw [hr, hl2] at this
      simpa using this
    have hor : (∃ b, regB rs = b ∧ b = false ∧ decide (0 ≤ rs) = false) ∨ (∃ b, regB rs = b ∧ b = false ∧ decide (0 ≤ rs) = true ∧ decide (rs < 16) = false) ∨ (∃ b, regB rs = b ∧ b = true ∧ decide (0 ≤ rs) = true ∧ decide (rs < 16) = true) := by
      unfold regB
      simp only [exists_eq_left', decide_eq_true_eq, decide_eq_false_iff_not, Bool.and_eq_true, Bool.and_eq_false_iff]
      omega
    have hd : decide (0 < (r : Int)) = true ∧ decide ((r : Int) < 16) = true := by
      have := ownB_in hr
      simp only [decide_eq_true_eq]
      omega
    obtain ⟨d1, d2⟩ := hd
    clear hr h0 h1 hl2 hl3
    rcases hor with ⟨b, hb, rfl, t2⟩ | ⟨b, hb, rfl, t2, t3⟩ | ⟨b, hb, rfl, t2, t3⟩
    all_goals as_aux_lemma =>
      have HB := Lib.hid hb
      have t1 := n3 _ hb
      clear n3 hb
      go_enter Tryz.func5, Tryz.ntmps5
      go_wp2_with fail
      refine (first39_any _).mono ?_
      rintro e w1 ⟨rfl, C1⟩
      have HC1 := Lib.hid C1
      go_wp2_with fail
      refine (const_any _ v _ HZ.out.1 HZ.out.2).mono ?_
      rintro e w2 ⟨v2, rfl, N2⟩
      rw [HL2.out] at N2
      obtain ⟨p2, c2, rfl, -⟩ := InsAt.of N2.1.sl (by have := HLen2.out; omega)
      have HN2 := Lib.hid N2
      clear C1 N2
      go_wp2_with fail
      refine (move_any _ _ _).mono ?_
      rintro e w3 ⟨v3, rfl, N3⟩
      rw [HL3.out] at N3
      obtain ⟨p3, c3, rfl, -⟩ := InsAt.of N3.1.sl (by have := HLen3.out; omega)
      have HN3 := Lib.hid N3
      clear N3
      go_wp2_with fail
      refine (rconst_any _ v _ HZ.out.1 HZ.out.2).mono ?_
      rintro e w4 ⟨v4, rfl, N4⟩
      rw [HL2.out] at N4
      have HN4 := Lib.hid N4
      clear N4
      go_wp2_with fail
      refine (same_any _ _ _ _ l2 l2 _ (HN2.out.1.sl.chg0 (HN3.out.2.step HN4.out.2)) HN4.out.1.sl (by have := HLen2.out; omega) (by have := HLen2.out; omega)).mono ?_
      rintro e w5 ⟨rfl, C5⟩
      rw [decide_eq_true rfl]
      have HC5 : Hid (Chg NoB w w5) := Lib.hid ((((HC1.out.step HN2.out.2).step HN3.out.2).step HN4.out.2).step C5)
      have HS2 := Lib.hid (HN2.out.1.sl.chg0 ((HN3.out.2.step HN4.out.2).step C5))
      have HS3 := Lib.hid (HN3.out.1.sl.chg0 (HN4.out.2.step C5))
      clear C5 HC1 HN2 HN3 HN4
      have hB9 := Blk.new w5 #[.int .u64 0, .int .u64 0, .int .u64 0, .int .u64 0, .int .u64 0, .int .u64 0, .int .u64 0, .int .u64 0, .int .u64 0, .int .u64 0, .int .u64 0, .int .u64 0, .int .u64 0, .int .u64 0, .int .u64 0, .int .u64 0] 65
      obtain ⟨b9, hb9⟩ : ∃ b, w5.heap.size = b := ⟨_, rfl⟩
      have HB9 : Hid (w5.heap.size = b9) := Lib.hid hb9
      rw [hb9] at hB9
      have HB0 := Lib.hid hB9
      have HC0 := Lib.hid ((Chg.refl NoB w5).alloc (.cells #[.int .u64 0, .int .u64 0, .int .u64 0, .int .u64 0, .int .u64 0, .int .u64 0, .int .u64 0, .int .u64 0, .int .u64 0, .int .u64 0, .int .u64 0, .int .u64 0, .int .u64 0, .int .u64 0, .int .u64 0, .int .u64 0] 65))
      clear hb9 hB9
      go_wp2_with fail
      rw [HB9.out]
      go_loopg [59] 16 (fun k iv wr => ∃ i : Nat, i + k = 16 ∧ iv = .int .i64 i ∧ Blk wr b9 (rcs (fun k => if k < i then hund k else 0)) 65 ∧ Chg NoB w5 wr)
      case atStart => exact ⟨0, rfl, rfl, HB0.out, HC0.out⟩
      case round =>
        obtain ⟨i, hik, rfl, hB, hX⟩ := hrel
        have HXX := Lib.hid hX
        have HBX := Lib.hid hB
        have HIK := Lib.hid hik
        by_cases hi : i < 16
        · as_aux_lemma =>
          have s1 : decide ((i : Int) < 16) = true := decide_eq_true (by omega)
          have x0 := hB.cell' (rcs_at (fun k => if k < i then hund k else 0) hi)
          have xl := hB.lt
          have xz := hB.frozen
          have q2 : IntKind.i64.wrap ((i : Int) + 1) = ((i + 1 : Nat) : Int) := IntWalk.i64_in _ (by omega)
          have q3 : IntKind.i64.wrap (100 * (i : Int)) = 100 * (i : Int) := IntWalk.i64_in _ (by omega)
          have q4 : IntKind.u64.wrap (100 * (i : Int)) = (hund i : Nat) := by
            unfold hund
            rw [if_pos hi, IntKind.wrap_u64]
            omega
          have n1 : IntKind.i64.wrap (i : Int) = i := IntWalk.i64_in _ (by omega)
          have n2 : (i : Int).toNat = i := Int.toNat_natCast i
          have n3 : (0 : Int) ≤ i := by omega
          have n4 : (i : Int) < 16 := by omega
          have HIL := Lib.hid hi
          clear hB hX hik hi
          go_wp2_with fail
          go_roundg (16 - (i + 1))
          case rel =>
            refine ⟨i + 1, by have := HIL.out; omega, by go_num, ?_, HXX.out.setCell (a := ⟨b9, i, none⟩) (.inr (by have := HB9.out; show w5.heap.size ≤ b9; omega)) _⟩
            have := HBX.out.set i (.int .u64 (hund i))
            rw [rcs_set _ HIL.out] at this
            have e : (fun k => if k = i then hund i else if k < i then hund k else 0) = fun k => if k < i + 1 then hund k else 0 := by
              funext k
              by_cases hk : k = i
              · rw [if_pos hk, if_pos (by omega), hk]
              · rw [if_neg hk]
                by_cases hl : k < i
                · rw [if_pos hl, if_pos (by omega)]
                · rw [if_neg hl, if_neg (by omega)]
            rw [e] at this
            exact this
          case measure => have := HIL.out; have := HIK.out; omega
        · as_aux_lemma =>
          have e16 : i = 16 := by omega
          subst e16
          have s1 : decide (((16 : Nat) : Int) < 16) = false := rfl
          have hBs := hB.set 0 (.int .u64 (0 : Nat))
          rw [rcs_set _ (by omega)] at hBs
          have e : rcs (fun k => if k = 0 then 0 else if k < 16 then hund k else 0) = rcs hund := rfl
          rw [e] at hBs
          have cX := hX.setCell (a := ⟨b9, 0, none⟩) (.inr (by have := HB9.out; show w5.heap.size ≤ b9; omega)) (.int .u64 0)
          have x0 := hB.cell' (rcs_at (fun k => if k < 16 then hund k else 0) (n := 0) (by omega))
          have xl := hB.lt
          have xz := hB.frozen
          have HBs := Lib.hid hBs
          have HCX := Lib.hid cX
          clear hi hX hik hB hBs cX e
          go_upto_region 16 with fail
          generalize wr.setCell ⟨b9, 0, none⟩ (.int .u64 0) = wq at *
          have g := fun (i : Nat) (hi : i < 16) => HBs.out.cell' (rcs_at hund hi)
          have g0 := g 0 (by omega)
          have g1 := g 1 (by omega)
          have g2 := g 2 (by omega)
          have g3 := g 3 (by omega)
          have g4 := g 4 (by omega)
          have g5 := g 5 (by omega)
          have g6 := g 6 (by omega)
          have g7 := g 7 (by omega)
          have g8 := g 8 (by omega)
          have g9 := g 9 (by omega)
          have g10 := g 10 (by omega)
          have g11 := g 11 (by omega)
          have g12 := g 12 (by omega)
          have g13 := g 13 (by omega)
          have g14 := g 14 (by omega)
          have g15 := g 15 (by omega)
          have gl := HBs.out.lt
          obtain ⟨e1, hc1, hr1, hp1, hx1⟩ := const_run HR.out HZ.out.1 HZ.out.2
          rw [HL2.out] at hc1 hp1
          have HQ1 := prun_any l2 _ _ (HS2.out.chg0 HCX.out) (by have := constF_right r HZ.out.1 HZ.out.2; rw [HL2.out] at this; exact this) (by have := HLen2.out; omega) hund hund_lt 30 (by omega) e1 hc1 hr1 hp1
          have HQ := Lib.hid HQ1
          have HX1 := Lib.hid hx1
          clear g x0 xl xz hc1 hr1 hp1 hx1 HQ1
          go_wp2_with fail
          refine HQ.out.mono ?_
          rintro e w6 ⟨rfl, C6⟩
          clear HQ
          generalize e1.r = a at *
          have HC6 := Lib.hid (HCX.out.step C6)
          have HB6 := Lib.hid (C6.blk0 HBs.out)
          have HS6 := Lib.hid (HS3.out.chg0 (HCX.out.step C6))
          have HP6 := Lib.hid (HS2.out.chg0 (HCX.out.step C6))
          clear g0 g1 g2 g3 g4 g5 g6 g7 g8 g9 g10 g11 g12 g13 g14 g15 gl C6 HBs HCX
          have hB7 := Blk.new w6 (rcs a) 65
          have hC7 := (Chg.refl NoB w6).alloc (.cells (rcs a) 65)
          have hM7 := HB6.out.alloc (.cells (rcs a) 65)
          obtain ⟨b7, hb7⟩ : ∃ b, w6.heap.size = b := ⟨_, rfl⟩
          have HB7 : Hid (w6.heap.size = b7) := Lib.hid hb7
          rw [hb7] at hB7
          simp only [rcs] at hB7 hC7 hM7 ⊢
          go_upto_region 17 with fail
          generalize w6.alloc (.cells #[.int .u64 (a 0), .int .u64 (a 1), .int .u64 (a 2), .int .u64 (a 3), .int .u64 (a 4), .int .u64 (a 5), .int .u64 (a 6), .int .u64 (a 7), .int .u64 (a 8), .int .u64 (a 9), .int .u64 (a 10), .int .u64 (a 11), .int .u64 (a 12), .int .u64 (a 13), .int .u64 (a 14), .int .u64 (a 15)] 65) = w7 at *
          have HBn : Hid (Blk w7 b7 (rcs a) 65) := Lib.hid hB7
          have HCn := Lib.hid hC7
          have HMn : Hid (Blk w7 b9 (rcs hund) 65) := Lib.hid hM7
          have g := fun (i : Nat) (hi : i < 16) => HMn.out.cell' (rcs_at hund hi)
          have g0 := g 0 (by omega)
          have g1 := g 1 (by omega)
          have g2 := g 2 (by omega)
          have g3 := g 3 (by omega)
          have g4 := g 4 (by omega)
          have g5 := g 5 (by omega)
          have g6 := g 6 (by omega)
          have g7 := g 7 (by omega)
          have g8 := g 8 (by omega)
          have g9 := g 9 (by omega)
          have g10 := g 10 (by omega)
          have g11 := g 11 (by omega)
          have g12 := g 12 (by omega)
          have g13 := g 13 (by omega)
          have g14 := g 14 (by omega)
          have g15 := g 15 (by omega)
          have gl := HMn.out.lt
          obtain ⟨e2, hc2, hr2, hp2, hx2⟩ := move_run r rs
          rw [HL3.out] at hc2 hp2
          rw [HR.out, HB.out] at hx2
          have HQ1 := prun_any l3 _ _ (HS6.out.chg0 hC7) (by have := moveF_right r rs; rw [HL3.out] at this; exact this) (by have := HLen3.out; omega) hund hund_lt 5 (by omega) e2 hc2 hr2 hp2
          have HQ := Lib.hid HQ1
          have HX2 := Lib.hid hx2
          clear g hc2 hr2 hp2 hx2 HQ1 hb7 hB7 hC7 hM7
          go_wp2_with fail
          refine HQ.out.mono ?_
          rintro e w8 ⟨rfl, C8⟩
          clear HQ
          generalize e2.r = d at *
          have HC8 := Lib.hid ((HC6.out.step HCn.out).step C8)
          have HM8 := Lib.hid (C8.blk0 HMn.out)
          have HB8 := Lib.hid (C8.blk0 HBn.out)
          have HP8 := Lib.hid (HP6.out.chg0 (HCn.out.step C8))
          clear g0 g1 g2 g3 g4 g5 g6 g7 g8 g9 g10 g11 g12 g13 g14 g15 gl C8 HMn HBn HCn HC6 HP6 HS6 HB6
          have hB7 := Blk.new w8 (rcs d) 65
          have hC7 := HC8.out.alloc (.cells (rcs d) 65)
          have hM7 := HM8.out.alloc (.cells (rcs d) 65)
          have hN7 := HB8.out.alloc (.cells (rcs d) 65)
          have hP7 := HP8.out.chg0 ((Chg.refl NoB w8).alloc (.cells (rcs d) 65))
          obtain ⟨b8, hb8⟩ : ∃ b, w8.heap.size = b := ⟨_, rfl⟩
          rw [hb8] at hB7
          simp only [rcs] at hB7 hC7 hM7 hN7 hP7 ⊢
          go_upto_region 18 with fail
          generalize w8.alloc (.cells #[.int .u64 (d 0), .int .u64 (d 1), .int .u64 (d 2), .int .u64 (d 3), .int .u64 (d 4), .int .u64 (d 5), .int .u64 (d 6), .int .u64 (d 7), .int .u64 (d 8), .int .u64 (d 9), .int .u64 (d 10), .int .u64 (d 11), .int .u64 (d 12), .int .u64 (d 13), .int .u64 (d 14), .int .u64 (d 15)] 65) = w9 at *
          have HD9 : Hid (Blk w9 b8 (rcs d) 65) := Lib.hid hB7
          have HC9 := Lib.hid hC7
          have HM9 : Hid (Blk w9 b9 (rcs hund) 65) := Lib.hid hM7
          have HA9 : Hid (Blk w9 b7 (rcs a) 65) := Lib.hid hN7
          have HP9 := Lib.hid hP7
          clear hB7 hC7 hM7 hN7 hP7 hb8 HM8 HB8 HP8 HC8
          have n1 : IntKind.i64.wrap (r : Int) = r := IntWalk.i64_in _ (by have := HRR.out; omega)
          have n2 : (r : Int).toNat = r := Int.toNat_natCast r
          have n3 : (0 : Int) ≤ r := by omega
          have n4 : (r : Int) < 16 := by have := HRR.out; omega
          have hne : 0 ≠ r := by have := HRR.out; omega
          clear hne
          first
          | (have hb : regB rs = true := HB.out
             unfold regB at hb
             simp only [Bool.and_eq_true, decide_eq_true_eq] at hb
             obtain ⟨q, rfl⟩ := Int.eq_ofNat_of_zero_le hb.1
             have hq : q < 16 := by omega
             have m1 : IntKind.i64.wrap (q : Int) = q := IntWalk.i64_in _ (by omega)
             have m2 : (q : Int).toNat = q := Int.toNat_natCast q
             have m3 : (0 : Int) ≤ q := by omega
             have m4 : (q : Int) < 16 := by omega
             have y1 := HD9.out.cell' (rcs_at d (n := r) (by omega))
             have y2 := HM9.out.cell' (rcs_at hund hq)
             have l1 := HD9.out.lt
             have l2' := HM9.out.lt
             have ed : d r = hund q := HX2.out rfl
             rw [ed] at y1
             have y0 : ((hund q : Int) != (hund q : Int)) = false := by simp
             generalize hund q = u at *
             clear hb hq ed
             go_region_held3 (fun w' => w'.cell? ⟨b8, r, none⟩ = some (.int .u64 u) ∧ w'.cell? ⟨b9, q, none⟩ = some (.int .u64 u)) (exact ⟨by assumption, by assumption⟩) (fail))
          | (have hb : regB rs = false := HB.out
             clear hb
             refine wp_region_mix 15 [(true, 0), (true, 1), (true, 2), (true, 3), (true, 4), (true, 5), (true, 6), (true, 7), (true, 8), (true, 9), (true, 10), (true, 11), (true, 12), (true, 13), (true, 14)] (fun w' => True) (by kernel_rfl) (by kernel_rfl) (fun _ _ _ _ _ h => h) (trivial) ?_
             simp only [pickMix_nil, pickMix_cons, Option.getD_some, List.getElem?_toArray, List.getElem?_cons_zero, List.getElem?_cons_succ, List.cons_append, List.nil_append, List.drop_succ_cons, List.drop_zero]
             refine wpMix_take rfl ?_
             apply Exists.intro
             refine ⟨fun wS hS => ?_, ?_⟩
             · try dsimp only at hS
               have _ := hS
               go_simp
               try rfl
             simp only [Act.put, List.setIfInBounds_toArray, List.set_cons_zero, List.set_cons_succ]
             refine wpMix_take rfl ?_
             apply Exists.intro
             refine ⟨fun wS hS => ?_, ?_⟩
             · try dsimp only at hS
               have _ := hS
               go_simp
               try rfl
             simp only [Act.put, List.setIfInBounds_toArray, List.set_cons_zero, List.set_cons_succ]
             refine wpMix_take rfl ?_
             apply Exists.intro
             refine ⟨fun wS hS => ?_, ?_⟩
             · try dsimp only at hS
               have _ := hS
               go_simp
               try rfl
             simp only [Act.put, List.setIfInBounds_toArray, List.set_cons_zero, List.set_cons_succ]
             refine wpMix_take rfl ?_
             apply Exists.intro
             refine ⟨fun wS hS => ?_, ?_⟩
             · try dsimp only at hS
               have _ := hS
               go_simp
               try rfl
             simp only [Act.put, List.setIfInBounds_toArray, List.set_cons_zero, List.set_cons_succ]
             first
             | refine wpMix_off (by rfl) ?_
             | (refine wpMix_on (by rfl) ?_
                apply Exists.intro
                refine ⟨fun wS hS => ?_, ?_⟩
                · try dsimp only at hS
                  have _ := hS
                  go_simp
                  try rfl)
             simp only [Act.put, List.setIfInBounds_toArray, List.set_cons_zero, List.set_cons_succ]
             first
             | refine wpMix_off (by rfl) ?_
             | (refine wpMix_on (by rfl) ?_
                apply Exists.intro
                refine ⟨fun wS hS => ?_, ?_⟩
                · try dsimp only at hS
                  have _ := hS
                  go_simp
                  try rfl)
             simp only [Act.put, List.setIfInBounds_toArray, List.set_cons_zero, List.set_cons_succ]
             first
             | refine wpMix_off (by rfl) ?_
             | (refine wpMix_on (by rfl) ?_
                apply Exists.intro
                refine ⟨fun wS hS => ?_, ?_⟩
                · try dsimp only at hS
                  have _ := hS
                  go_simp
                  try rfl)
             simp only [Act.put, List.setIfInBounds_toArray, List.set_cons_zero, List.set_cons_succ]
             first
             | refine wpMix_off (by rfl) ?_
             | (refine wpMix_on (by rfl) ?_
                apply Exists.intro
                refine ⟨fun wS hS => ?_, ?_⟩
                · try dsimp only at hS
                  have _ := hS
                  go_simp
                  try rfl)
             simp only [Act.put, List.setIfInBounds_toArray, List.set_cons_zero, List.set_cons_succ]
             first
             | refine wpMix_off (by rfl) ?_
             | (refine wpMix_on (by rfl) ?_
                apply Exists.intro
                refine ⟨fun wS hS => ?_, ?_⟩
                · try dsimp only at hS
                  have _ := hS
                  go_simp
                  try rfl)
             simp only [Act.put, List.setIfInBounds_toArray, List.set_cons_zero, List.set_cons_succ]
             first
             | refine wpMix_off (by rfl) ?_
             | (refine wpMix_on (by rfl) ?_
                apply Exists.intro
                refine ⟨fun wS hS => ?_, ?_⟩
                · try dsimp only at hS
                  have _ := hS
                  go_simp
                  try rfl)
             simp only [Act.put, List.setIfInBounds_toArray, List.set_cons_zero, List.set_cons_succ]
             first
             | refine wpMix_off (by rfl) ?_
             | (refine wpMix_on (by rfl) ?_
                apply Exists.intro
                refine ⟨fun wS hS => ?_, ?_⟩
                · try dsimp only at hS
                  have _ := hS
                  go_simp
                  try rfl)
             simp only [Act.put, List.setIfInBounds_toArray, List.set_cons_zero, List.set_cons_succ]
             first
             | refine wpMix_off (by rfl) ?_
             | (refine wpMix_on (by rfl) ?_
                apply Exists.intro
                refine ⟨fun wS hS => ?_, ?_⟩
                · try dsimp only at hS
                  have _ := hS
                  go_simp
                  try rfl)
             simp only [Act.put, List.setIfInBounds_toArray, List.set_cons_zero, List.set_cons_succ]
             first
             | refine wpMix_off (by rfl) ?_
             | (refine wpMix_on (by rfl) ?_
                apply Exists.intro
                refine ⟨fun wS hS => ?_, ?_⟩
                · try dsimp only at hS
                  have _ := hS
                  go_simp
                  try rfl)
             simp only [Act.put, List.setIfInBounds_toArray, List.set_cons_zero, List.set_cons_succ]
             first
             | refine wpMix_off (by rfl) ?_
             | (refine wpMix_on (by rfl) ?_
                apply Exists.intro
                refine ⟨fun wS hS => ?_, ?_⟩
                · try dsimp only at hS
                  have _ := hS
                  go_simp
                  try rfl)
             simp only [Act.put, List.setIfInBounds_toArray, List.set_cons_zero, List.set_cons_succ]
             first
             | refine wpMix_off (by rfl) ?_
             | (refine wpMix_on (by rfl) ?_
                apply Exists.intro
                refine ⟨fun wS hS => ?_, ?_⟩
                · try dsimp only at hS
                  have _ := hS
                  go_simp
                  try rfl)
             simp only [Act.put, List.setIfInBounds_toArray, List.set_cons_zero, List.set_cons_succ]
             refine wpMix_nil ?_
             skip)
          | fail "R18"
          have cD : Chg NoB w9 w9.drew := (Chg.refl NoB w9).drew
          have HAd := Lib.hid (cD.blk0 HA9.out)
          have HMd := Lib.hid (cD.blk0 HM9.out)
          have HPd := Lib.hid (HP9.out.chg0 cD)
          have HCd := Lib.hid (HC9.out.step cD)
          generalize w9.drew = wd at *
          clear cD HA9 HM9 HP9 HC9 HD9
          go_wp2_with fail
          go_loopg [97] 16 (fun k iv wx => ∃ j : Nat, j + k = 16 ∧ iv = .int .i64 j ∧ Chg NoB wd wx)
          case atStart => exact ⟨0, rfl, rfl, Chg.refl _ _⟩
          case round =>
            obtain ⟨j, hjk, rfl, hX⟩ := hrel
            have HX := Lib.hid hX
            have HJ := Lib.hid hjk
            by_cases hj : j < 16
            · as_aux_lemma =>
              have s2 : decide ((j : Int) < 16) = true := decide_eq_true (by omega)
              have s3 : ((j : Int) != (r : Int)) = !decide (j = r) := by
                by_cases e : j = r
                · subst e; simp
                · rw [decide_eq_false e]; simp; omega
              have k1 : IntKind.i64.wrap (j : Int) = j := IntWalk.i64_in _ (by omega)
              have k2 : (j : Int).toNat = j := Int.toNat_natCast j
              have k3 : (0 : Int) ≤ j := by omega
              have k4 : (j : Int) < 16 := by omega
              have k5 : IntKind.i64.wrap ((j : Int) + 1) = ((j + 1 : Nat) : Int) := IntWalk.i64_in _ (by omega)
              have z1 := (hX.blk0 HAd.out).cell' (rcs_at a hj)
              have z2 := (hX.blk0 HMd.out).cell' (rcs_at hund hj)
              have z3 := (hX.blk0 HAd.out).lt
              have z4 := (hX.blk0 HMd.out).lt
              have z5 := HX1.out j hj
              have HJL := Lib.hid hj
              have cE : Chg NoB wr wr.drew := (Chg.refl NoB wr).drew
              have HE := Lib.hid (hX.step cE)
              clear hX hjk hj cE
              by_cases e : j = r
              · as_aux_lemma =>
                rw [decide_eq_true e, Bool.not_true] at s3
                clear z1 z2 z5 e
                go_upto_region 23 with fail
                refine wp_region_mix 11 [(true, 0), (true, 1), (true, 2), (true, 3), (true, 4), (true, 5), (true, 6), (true, 7), (true, 8), (true, 9), (true, 10)] (fun w' => True) (by kernel_rfl) (by kernel_rfl) (fun _ _ _ _ _ h => h) (trivial) ?_
                simp only [pickMix_nil, pickMix_cons, Option.getD_some, List.getElem?_toArray, List.getElem?_cons_zero, List.getElem?_cons_succ, List.cons_append, List.nil_append, List.drop_succ_cons, List.drop_zero]
                refine wpMix_take rfl ?_
                apply Exists.intro
                refine ⟨fun wS hS => ?_, ?_⟩
                · try dsimp only at hS
                  have _ := hS
                  go_simp
                  try rfl
                simp only [Act.put, List.setIfInBounds_toArray, List.set_cons_zero, List.set_cons_succ]
                refine wpMix_take rfl ?_
                apply Exists.intro
                refine ⟨fun wS hS => ?_, ?_⟩
                · try dsimp only at hS
                  have _ := hS
                  go_simp
                  try rfl
                simp only [Act.put, List.setIfInBounds_toArray, List.set_cons_zero, List.set_cons_succ]
                refine wpMix_take rfl ?_
                apply Exists.intro
                refine ⟨fun wS hS => ?_, ?_⟩
                · try dsimp only at hS
                  have _ := hS
                  go_simp
                  try rfl
                simp only [Act.put, List.setIfInBounds_toArray, List.set_cons_zero, List.set_cons_succ]
                refine wpMix_take rfl ?_
                apply Exists.intro
                refine ⟨fun wS hS => ?_, ?_⟩
                · try dsimp only at hS
                  have _ := hS
                  go_simp
                  try rfl
                simp only [Act.put, List.setIfInBounds_toArray, List.set_cons_zero, List.set_cons_succ]
                first
                | refine wpMix_off (by rfl) ?_
                | (refine wpMix_on (by rfl) ?_
                   apply Exists.intro
                   refine ⟨fun wS hS => ?_, ?_⟩
                   · try dsimp only at hS
                     have _ := hS
                     go_simp
                     try rfl)
                simp only [Act.put, List.setIfInBounds_toArray, List.set_cons_zero, List.set_cons_succ]
                first
                | refine wpMix_off (by rfl) ?_
                | (refine wpMix_on (by rfl) ?_
                   apply Exists.intro
                   refine ⟨fun wS hS => ?_, ?_⟩
                   · try dsimp only at hS
                     have _ := hS
                     go_simp
                     try rfl)
                simp only [Act.put, List.setIfInBounds_toArray, List.set_cons_zero, List.set_cons_succ]
                first
                | refine wpMix_off (by rfl) ?_
                | (refine wpMix_on (by rfl) ?_
                   apply Exists.intro
                   refine ⟨fun wS hS => ?_, ?_⟩
                   · try dsimp only at hS
                     have _ := hS
                     go_simp
                     try rfl)
                simp only [Act.put, List.setIfInBounds_toArray, List.set_cons_zero, List.set_cons_succ]
                first
                | refine wpMix_off (by rfl) ?_
                | (refine wpMix_on (by rfl) ?_
                   apply Exists.intro
                   refine ⟨fun wS hS => ?_, ?_⟩
                   · try dsimp only at hS
                     have _ := hS
                     go_simp
                     try rfl)
                simp only [Act.put, List.setIfInBounds_toArray, List.set_cons_zero, List.set_cons_succ]
                first
                | refine wpMix_off (by rfl) ?_
                | (refine wpMix_on (by rfl) ?_
                   apply Exists.intro
                   refine ⟨fun wS hS => ?_, ?_⟩
                   · try dsimp only at hS
                     have _ := hS
                     go_simp
                     try rfl)
                simp only [Act.put, List.setIfInBounds_toArray, List.set_cons_zero, List.set_cons_succ]
                first
                | refine wpMix_off (by rfl) ?_
                | (refine wpMix_on (by rfl) ?_
                   apply Exists.intro
                   refine ⟨fun wS hS => ?_, ?_⟩
                   · try dsimp only at hS
                     have _ := hS
                     go_simp
                     try rfl)
                simp only [Act.put, List.setIfInBounds_toArray, List.set_cons_zero, List.set_cons_succ]
                first
                | refine wpMix_off (by rfl) ?_
                | (refine wpMix_on (by rfl) ?_
                   apply Exists.intro
                   refine ⟨fun wS hS => ?_, ?_⟩
                   · try dsimp only at hS
                     have _ := hS
                     go_simp
                     try rfl)
                simp only [Act.put, List.setIfInBounds_toArray, List.set_cons_zero, List.set_cons_succ]
                refine wpMix_nil ?_
                go_wp2_with fail
                go_roundg (16 - (j + 1))
                case rel => exact ⟨j + 1, by have := HJL.out; omega, by go_num, HE.out⟩
                case measure => have := HJL.out; have := HJ.out; omega
              · as_aux_lemma =>
                rw [if_neg (by rw [Int.toNat_natCast]; exact e)] at z5
                rw [z5] at z1
                rw [decide_eq_false e, Bool.not_false] at s3
                have z6 : ((hund j : Int) != (hund j : Int)) = false := by simp
                generalize hund j = u at *
                clear z5 e
                go_upto_region 23 with fail
                first
                | go_region_held3 (fun w' => w'.cell? ⟨b7, j, none⟩ = some (.int .u64 u) ∧ w'.cell? ⟨b9, j, none⟩ = some (.int .u64 u)) (exact ⟨by assumption, by assumption⟩) (fail)
                | fail "R23b"
                go_wp2_with fail
                go_roundg (16 - (j + 1))
                case rel => exact ⟨j + 1, by have := HJL.out; omega, by go_num, HE.out⟩
                case measure => have := HJL.out; have := HJ.out; omega
            · as_aux_lemma =>
              have e16 : j = 16 := by omega
              subst e16
              have s2 : decide (((16 : Nat) : Int) < 16) = false := rfl
              have z1 := (hX.blk0 HAd.out).cell' (rcs_at a (n := r) (by have := HRR.out; omega))
              have z3 := (hX.blk0 HAd.out).lt
              have z5 := HX1.out r (by have := HRR.out; omega)
              rw [if_pos (by rw [Int.toNat_natCast]), Int.toNat_natCast] at z5
              rw [z5] at z1
              have hU := uses39_any _ _ _ _ (HPd.out.chg0 hX) (by have := HLen2.out; omega)
              have hu := const_uses HR.out (sgn v)
              rw [HL2.out, Int.toNat_natCast] at hu
              rw [hu] at hU
              have HU := Lib.hid hU
              have z6 : ((v : Int) == (v : Int)) = true := by simp
              have HF := Lib.hid (HC5.out.trans (HCd.out.step hX) fun k _ hk => hk)
              clear hX hjk hj hU hu z5
              go_wp2_with fail
              refine HU.out.mono ?_
              rintro e wu ⟨rfl, CU⟩
              have HCU := Lib.hid (HF.out.step CU)
              have sw : IntKind.u16.wrap ((2 : Int) ^ r) = (2 : Int) ^ r := by
                have hp : (2 : Nat) ^ r < 65536 := Nat.lt_of_lt_of_le (Nat.pow_lt_pow_right (by omega) (show r < 16 by have := HRR.out; omega)) (by decide)
                have hc : ((2 ^ r : Nat) : Int) = (2 : Int) ^ r := by simp
                rw [← hc]
                generalize (2 : Nat) ^ r = p at hp
                rw [IntKind.wrap_u16]
                omega
              clear CU HU
              go_wp2_with fail
              go_ret
              exact ⟨rfl, HCU.out⟩
end Go.Proofs.YthceikgkaellkaaGreat
