/- Walks through the tables: one entry. No condition. Tables: may an entry be laid; a page is mapped. No condition. -/
import Derived.Test.YtdjaeoeejcmhdaaGreatDoorGf
import Derived.Test.YtdjaeoeejcmhdaaGreatDoorGj
import Derived.Deep.RegionHeld3
set_option linter.unusedVariables false
set_option linter.unusedSimpArgs false
namespace Go.Proofs.YtdjaeoeejcmhdaaGreatDoor
open Go.RowKit Go.RR
set_option maxRecDepth 100000 in
theorem even_any (ppn : Nat) (l : Int) (w : World) (hp : ppn < 17592186044416) (hl : levelB l = true) : Calls Tryz.prog 140 #[.int .u64 ppn, .int .i64 l] w (RetW (.bool (evenB ppn l.toNat)) fun w' => w' = w) := by
  rcases level_cases l with rfl | rfl | rfl | h
  · have m1 : bits .and .u64 (ppn : Int) 0 = 0 := by have := and_mask ppn 0 (by omega) (by omega); simpa [Nat.mod_one] using this
    have HB : Hid (evenB ppn (0 : Int).toNat = true) := Lib.hid (decide_eq_true (Nat.mod_one _))
    go_enter Tryz.func140, Tryz.ntmps140
    go_wp2_with fail
    go_ret
    exact ⟨ret_bool HB.out.symm, rfl⟩
  · have m1 : bits .and .u64 (ppn : Int) 511 = (ppn : Int) % 512 := by have := and_lo 9 (by omega) (ppn : Int) (by omega) (by omega); simpa using this
    obtain ⟨b, hb⟩ : ∃ b, evenB ppn (1 : Int).toNat = b := ⟨_, rfl⟩
    have t1 : ((ppn : Int) % 512 == 0) = b := by
      rw [← hb]
      unfold evenB
      rw [Bool.eq_iff_iff, beq_iff_eq, decide_eq_true_iff]
      show _ ↔ ppn % 512 = 0
      omega
    have HB := Lib.hid hb
    clear hb
    go_enter Tryz.func140, Tryz.ntmps140
    go_wp2_with fail
    go_ret
    exact ⟨ret_bool HB.out.symm, rfl⟩
  · have m1 : bits .and .u64 (ppn : Int) 262143 = (ppn : Int) % 262144 := by have := and_lo 18 (by omega) (ppn : Int) (by omega) (by omega); simpa using this
    obtain ⟨b, hb⟩ : ∃ b, evenB ppn (2 : Int).toNat = b := ⟨_, rfl⟩
    have t1 : ((ppn : Int) % 262144 == 0) = b := by
      rw [← hb]
      unfold evenB
      rw [Bool.eq_iff_iff, beq_iff_eq, decide_eq_true_iff]
      show _ ↔ ppn % 262144 = 0
      omega
    have HB := Lib.hid hb
    clear hb
    go_enter Tryz.func140, Tryz.ntmps140
    go_wp2_with fail
    go_ret
    exact ⟨ret_bool HB.out.symm, rfl⟩
  · rw [hl] at h; cases h
set_option maxRecDepth 100000 in
theorem leads_any (p : Pte) (l : Int) (w : World) (hl : levelB l = true) : Calls Tryz.prog 141 #[.agg #[.bool p.v, .bool p.r, .bool p.w, .bool p.x, .bool p.u, .bool p.g, .bool p.a, .bool p.d, .int .i64 p.rsw, .int .u64 p.ppn], .int .i64 l] w (RetW (.bool (leadsB p l.toNat)) fun w' => Chg NoB w w') := by
  obtain ⟨v, r, pw, x, u, g, a, d, rsw, ppn⟩ := p
  have HC := Lib.hid ((Chg.refl NoB w).alloc (.cells #[.bool v, .bool r, .bool pw, .bool x, .bool u, .bool g, .bool a, .bool d, .int .i64 rsw, .int .u64 ppn] 135))
  rcases level_cases l with rfl | rfl | rfl | h
  · go_enter Tryz.func141, Tryz.ntmps141
    go_wp2_with fail
    go_ret
    exact ⟨rfl, HC.out⟩
  · cases u
    all_goals
      cases a
      all_goals
        cases d
        all_goals
          go_enter Tryz.func141, Tryz.ntmps141
          go_wp2_with fail
          go_ret
          exact ⟨rfl, HC.out⟩
  · cases u
    all_goals
      cases a
      all_goals
        cases d
        all_goals
          go_enter Tryz.func141, Tryz.ntmps141
          go_wp2_with fail
          go_ret
          exact ⟨rfl, HC.out⟩
  · rw [hl] at h; cases h
def pteA (p : Pte) : Value := .agg #[.bool p.v, .bool p.r, .bool p.w, .bool p.x, .bool p.u, .bool p.g, .bool p.a, .bool p.d, .int .i64 p.rsw, .int .u64 p.ppn]
set_option maxHeartbeats 4000000 in
set_option maxRecDepth 100000 in
theorem entry_any {S : Nat → Prop} {w : World} {mb fr : Nat} {b : By} (h : MemAt w S mb b fr) (at' : Nat) (ha : at' < 18446744073709551616) (h8 : at' % 8 = 0) (hf : fr ≤ 1048576) :
    Calls Tryz.prog 139 #[.pointer (some ⟨mb, 0, none⟩), .int .u64 at'] w (RetW (.tuple #[.agg #[.bool (entryF b fr at').1.v, .bool (entryF b fr at').1.r, .bool (entryF b fr at').1.w, .bool (entryF b fr at').1.x, .bool (entryF b fr at').1.u, .bool (entryF b fr at').1.g, .bool (entryF b fr at').1.a, .bool (entryF b fr at').1.d, .int .i64 (entryF b fr at').1.rsw, .int .u64 (entryF b fr at').1.ppn], .int .i64 (entryF b fr at').2]) fun w' => Chg NoB w w') := by
  have hal : alignedB at' (8 : Nat) = true := by unfold alignedB; rw [show sizeB ((8 : Nat) : Int) = true from rfl]; exact decide_eq_true h8
  by_cases hb : fr ≤ at' / 4096
  · have hck : checkF fr at' (8 : Nat) = 61 := by
      unfold checkF
      rw [if_neg (by rw [show sizeB ((8 : Nat) : Int) = true from rfl]; simp), if_neg (by rw [hal]; simp), if_pos hb]
    have HE : Hid (entryF b fr at' = (Pte.zero, 61)) := Lib.hid (if_pos hb)
    have H0 : Hid (∀ w', Chg NoB w w' → Calls Tryz.prog 64 #[.pointer (some ⟨mb, 0, none⟩), .int .u64 at', .int .i64 8] w' (RetW (.tuple #[.int .u64 0, .int .i64 61]) fun w'' => w'' = w')) := Lib.hid fun w' c => by
      have := Load_any (h.chg0 c) at' 8 ha hf
      rw [hck] at this
      exact this
    clear h hal hck hb
    rw [HE.out]
    go_enter Tryz.func139, Tryz.ntmps139
    go_wp2_with fail
    with_reducible refine (H0.out _ ((Chg.refl NoB w).alloc _)).mono ?_
    rintro e w1 ⟨rfl, hw1⟩
    subst hw1
    go_wp2_with fail
    exact bodyPost_ret (v := .tuple #[pteA Pte.zero, .int .i64 61]) (by simp [results, Tryz.results139, go_sem, pteA, Pte.zero]) rfl ⟨rfl, (Chg.refl _ _).alloc _⟩
  · have hck : checkF fr at' (8 : Nat) = 0 := check_ok hal (by omega)
    obtain ⟨V, hV⟩ : ∃ V, getW b at' 8 = V := ⟨_, rfl⟩
    have hV64 : V < 18446744073709551616 := by
      rw [← hV]
      obtain ⟨mp, m, _, _, _, _, _, h6⟩ := h
      exact getW_lt h6.ok 8 at'
    have HE : Hid (entryF b fr at' = if pteOkW V && rightP8 (pteG V) then (pteG V, 0) else (Pte.zero, 51)) := Lib.hid (by unfold entryF; rw [if_neg hb, hV])
    have H0 : Hid (∀ w', Chg NoB w w' → Calls Tryz.prog 64 #[.pointer (some ⟨mb, 0, none⟩), .int .u64 at', .int .i64 8] w' (RetW (.tuple #[.int .u64 V, .int .i64 0]) fun w'' => w'' = w')) := Lib.hid fun w' c => by
      have := Load_any (h.chg0 c) at' 8 ha hf
      rw [hck, if_pos rfl, hV] at this
      exact this
    obtain ⟨G, hG⟩ : ∃ G, pteG V = G := ⟨_, rfl⟩
    obtain ⟨ok, hok⟩ : ∃ ok, pteOkW V = ok := ⟨_, rfl⟩
    have H1 := Lib.hid fun w' => pteGet_any V hV64 w'
    rw [hG, hok] at H1 HE
    have H2 := Lib.hid fun w' => pteRight_any G w'
    obtain ⟨rt, hrt⟩ : ∃ rt, rightP8 G = rt := ⟨_, rfl⟩
    rw [hrt] at H2 HE
    clear h hal hck hb hV hG hok hrt hV64
    obtain ⟨gv, gr, gw, gx, gu, gg, ga, gd, grs, gp⟩ := G
    have HCZ := Lib.hid ((Chg.refl NoB w).alloc (.cells #[.bool false, .bool false, .bool false, .bool false, .bool false, .bool false, .bool false, .bool false, .int .i64 0, .int .u64 0] 135))
    have HBZ := Lib.hid (Blk.new w #[.bool false, .bool false, .bool false, .bool false, .bool false, .bool false, .bool false, .bool false, .int .i64 0, .int .u64 0] 135)
    go_enter Tryz.func139, Tryz.ntmps139
    go_wp2_with fail
    with_reducible refine (H0.out _ HCZ.out).mono ?_
    rintro e w1 ⟨rfl, hw1⟩
    subst hw1
    go_wp2_with fail
    with_reducible refine (H1.out _).mono ?_
    rintro e w2 ⟨rfl, C2⟩
    have HC2 := Lib.hid ((HCZ.out.step C2).alloc (.cells #[.bool gv, .bool gr, .bool gw, .bool gx, .bool gu, .bool gg, .bool ga, .bool gd, .int .i64 grs, .int .u64 gp] 135))
    have HB2 := Lib.hid ((C2.blk0 HBZ.out).alloc (.cells #[.bool gv, .bool gr, .bool gw, .bool gx, .bool gu, .bool gg, .bool ga, .bool gd, .int .i64 grs, .int .u64 gp] 135))
    have HP2 := Lib.hid (Blk.new w2 #[.bool gv, .bool gr, .bool gw, .bool gx, .bool gu, .bool gg, .bool ga, .bool gd, .int .i64 grs, .int .u64 gp] 135)
    clear C2
    go_upto_region 5 with fail
    generalize w2.alloc (.cells #[.bool gv, .bool gr, .bool gw, .bool gx, .bool gu, .bool gg, .bool ga, .bool gd, .int .i64 grs, .int .u64 gp] 135) = w3 at *
    cases ok
    · have HB := HB2
      have HC := HC2
      have HR : Hid (entryF b fr at' = (Pte.zero, 51)) := Lib.hid (by rw [HE.out]; rfl)
      have x0 := HB.out.cell' (i := 0) (v := .bool false) rfl
      have f0 := HB.out.frozen 0
      have x1 := HB.out.cell' (i := 1) (v := .bool false) rfl
      have f1 := HB.out.frozen 1
      have x2 := HB.out.cell' (i := 2) (v := .bool false) rfl
      have f2 := HB.out.frozen 2
      have x3 := HB.out.cell' (i := 3) (v := .bool false) rfl
      have f3 := HB.out.frozen 3
      have x4 := HB.out.cell' (i := 4) (v := .bool false) rfl
      have f4 := HB.out.frozen 4
      have x5 := HB.out.cell' (i := 5) (v := .bool false) rfl
      have f5 := HB.out.frozen 5
      have x6 := HB.out.cell' (i := 6) (v := .bool false) rfl
      have f6 := HB.out.frozen 6
      have x7 := HB.out.cell' (i := 7) (v := .bool false) rfl
      have f7 := HB.out.frozen 7
      have x8 := HB.out.cell' (i := 8) (v := .int .i64 0) rfl
      have f8 := HB.out.frozen 8
      have x9 := HB.out.cell' (i := 9) (v := .int .u64 0) rfl
      have f9 := HB.out.frozen 9
      have hbr := HB.out.lt
      go_wp2_with fail
      exact bodyPost_ret (v := .tuple #[pteA Pte.zero, .int .i64 51]) (by simp [results, Tryz.results139, go_sem, pteA, Pte.zero, x0, x1, x2, x3, x4, x5, x6, x7, x8, x9, hbr]) rfl ⟨by rw [HR.out]; rfl, ((((((((((HC.out.setCell (.inr (Nat.le_refl _)) _).setCell (.inr (Nat.le_refl _)) _).setCell (.inr (Nat.le_refl _)) _).setCell (.inr (Nat.le_refl _)) _).setCell (.inr (Nat.le_refl _)) _).setCell (.inr (Nat.le_refl _)) _).setCell (.inr (Nat.le_refl _)) _).setCell (.inr (Nat.le_refl _)) _).setCell (.inr (Nat.le_refl _)) _).setCell (.inr (Nat.le_refl _)) _)⟩
    · have HP := HP2
      have y0 := HP.out.cell' (i := 0) (v := .bool gv) rfl
      have y1 := HP.out.cell' (i := 1) (v := .bool gr) rfl
      have y2 := HP.out.cell' (i := 2) (v := .bool gw) rfl
      have y3 := HP.out.cell' (i := 3) (v := .bool gx) rfl
      have y4 := HP.out.cell' (i := 4) (v := .bool gu) rfl
      have y5 := HP.out.cell' (i := 5) (v := .bool gg) rfl
      have y6 := HP.out.cell' (i := 6) (v := .bool ga) rfl
      have y7 := HP.out.cell' (i := 7) (v := .bool gd) rfl
      have y8 := HP.out.cell' (i := 8) (v := .int .i64 grs) rfl
      have y9 := HP.out.cell' (i := 9) (v := .int .u64 gp) rfl
      have hpr := HP.out.lt
      have HCx := HC2
      go_wp2_with fail
      with_reducible refine (H2.out _).mono ?_
      rintro e w4 ⟨rfl, C4⟩
      have HB := Lib.hid (C4.blk0 HB2.out)
      have HC := Lib.hid (HC2.out.step C4)
      have HP := Lib.hid (C4.blk0 HP2.out)
      clear C4 y0 y1 y2 y3 y4 y5 y6 y7 y8 y9 hpr
      cases rt
      ·
        have HR : Hid (entryF b fr at' = (Pte.zero, 51)) := Lib.hid (by rw [HE.out]; rfl)
        have x0 := HB.out.cell' (i := 0) (v := .bool false) rfl
        have f0 := HB.out.frozen 0
        have x1 := HB.out.cell' (i := 1) (v := .bool false) rfl
        have f1 := HB.out.frozen 1
        have x2 := HB.out.cell' (i := 2) (v := .bool false) rfl
        have f2 := HB.out.frozen 2
        have x3 := HB.out.cell' (i := 3) (v := .bool false) rfl
        have f3 := HB.out.frozen 3
        have x4 := HB.out.cell' (i := 4) (v := .bool false) rfl
        have f4 := HB.out.frozen 4
        have x5 := HB.out.cell' (i := 5) (v := .bool false) rfl
        have f5 := HB.out.frozen 5
        have x6 := HB.out.cell' (i := 6) (v := .bool false) rfl
        have f6 := HB.out.frozen 6
        have x7 := HB.out.cell' (i := 7) (v := .bool false) rfl
        have f7 := HB.out.frozen 7
        have x8 := HB.out.cell' (i := 8) (v := .int .i64 0) rfl
        have f8 := HB.out.frozen 8
        have x9 := HB.out.cell' (i := 9) (v := .int .u64 0) rfl
        have f9 := HB.out.frozen 9
        have hbr := HB.out.lt
        go_wp2_with fail
        exact bodyPost_ret (v := .tuple #[pteA Pte.zero, .int .i64 51]) (by simp [results, Tryz.results139, go_sem, pteA, Pte.zero, x0, x1, x2, x3, x4, x5, x6, x7, x8, x9, hbr]) rfl ⟨by rw [HR.out]; rfl, ((((((((((HC.out.setCell (.inr (Nat.le_refl _)) _).setCell (.inr (Nat.le_refl _)) _).setCell (.inr (Nat.le_refl _)) _).setCell (.inr (Nat.le_refl _)) _).setCell (.inr (Nat.le_refl _)) _).setCell (.inr (Nat.le_refl _)) _).setCell (.inr (Nat.le_refl _)) _).setCell (.inr (Nat.le_refl _)) _).setCell (.inr (Nat.le_refl _)) _).setCell (.inr (Nat.le_refl _)) _)⟩
      · have HR : Hid (entryF b fr at' = (⟨gv, gr, gw, gx, gu, gg, ga, gd, grs, gp⟩, 0)) := Lib.hid (by rw [HE.out]; rfl)
        have x0 := HB.out.cell' (i := 0) (v := .bool false) rfl
        have f0 := HB.out.frozen 0
        have x1 := HB.out.cell' (i := 1) (v := .bool false) rfl
        have f1 := HB.out.frozen 1
        have x2 := HB.out.cell' (i := 2) (v := .bool false) rfl
        have f2 := HB.out.frozen 2
        have x3 := HB.out.cell' (i := 3) (v := .bool false) rfl
        have f3 := HB.out.frozen 3
        have x4 := HB.out.cell' (i := 4) (v := .bool false) rfl
        have f4 := HB.out.frozen 4
        have x5 := HB.out.cell' (i := 5) (v := .bool false) rfl
        have f5 := HB.out.frozen 5
        have x6 := HB.out.cell' (i := 6) (v := .bool false) rfl
        have f6 := HB.out.frozen 6
        have x7 := HB.out.cell' (i := 7) (v := .bool false) rfl
        have f7 := HB.out.frozen 7
        have x8 := HB.out.cell' (i := 8) (v := .int .i64 0) rfl
        have f8 := HB.out.frozen 8
        have x9 := HB.out.cell' (i := 9) (v := .int .u64 0) rfl
        have f9 := HB.out.frozen 9
        have hbr := HB.out.lt
        have y0 := HP.out.cell' (i := 0) (v := .bool gv) rfl
        have y1 := HP.out.cell' (i := 1) (v := .bool gr) rfl
        have y2 := HP.out.cell' (i := 2) (v := .bool gw) rfl
        have y3 := HP.out.cell' (i := 3) (v := .bool gx) rfl
        have y4 := HP.out.cell' (i := 4) (v := .bool gu) rfl
        have y5 := HP.out.cell' (i := 5) (v := .bool gg) rfl
        have y6 := HP.out.cell' (i := 6) (v := .bool ga) rfl
        have y7 := HP.out.cell' (i := 7) (v := .bool gd) rfl
        have y8 := HP.out.cell' (i := 8) (v := .int .i64 grs) rfl
        have y9 := HP.out.cell' (i := 9) (v := .int .u64 gp) rfl
        have hpr := HP.out.lt
        go_wp2_with fail
        exact bodyPost_ret (v := .tuple #[.agg #[.bool gv, .bool gr, .bool gw, .bool gx, .bool gu, .bool gg, .bool ga, .bool gd, .int .i64 grs, .int .u64 gp], .int .i64 0]) (by simp [results, Tryz.results139, go_sem, x0, x1, x2, x3, x4, x5, x6, x7, x8, x9, hbr]) rfl ⟨by rw [HR.out], ((((((((((HC.out.setCell (.inr (Nat.le_refl _)) _).setCell (.inr (Nat.le_refl _)) _).setCell (.inr (Nat.le_refl _)) _).setCell (.inr (Nat.le_refl _)) _).setCell (.inr (Nat.le_refl _)) _).setCell (.inr (Nat.le_refl _)) _).setCell (.inr (Nat.le_refl _)) _).setCell (.inr (Nat.le_refl _)) _).setCell (.inr (Nat.le_refl _)) _).setCell (.inr (Nat.le_refl _)) _)⟩
end Go.Proofs.YtdjaeoeejcmhdaaGreatDoor
set_option linter.unusedVariables false
set_option linter.unusedSimpArgs false
namespace Go.Proofs.YtdjaeoeejcmhdaaGreatDoor
open Go.RowKit Go.RR
theorem and_zero (x : Nat) (h : x < 18446744073709551616) : bits .and .u64 (x : Int) 0 = 0 := by
  have := and_lo 0 (by omega) (x : Int) (by omega) (by omega)
  simpa [Int.emod_one] using this
theorem wrap_zero : IntKind.i64.wrap 0 = 0 := rfl
theorem shl_zero (w : World) : (Op.shift BinOp.shl IntKind.u64 1 IntKind.i64 (IntKind.i64.wrap 0)).run Tryz.prog w = .ok (.int .u64 1) w := rfl
theorem pte_guard : Tryz.prog.eqGuardType Tryz.prog.depth 135 = false := by kernel_rfl
theorem ppart_0 (a0 a1 a2 a3 a4 a5 a6 a7 : Bool) (a8 a9 : Int) (w : World) : (_root_.Go.part 4 #[.bool a0, .bool a1, .bool a2, .bool a3, .bool a4, .bool a5, .bool a6, .bool a7, .int .i64 a8, .int .u64 a9] 0).run Tryz.prog w = .ok (.bool a0) w := by kernel_rfl
theorem ppart_1 (a0 a1 a2 a3 a4 a5 a6 a7 : Bool) (a8 a9 : Int) (w : World) : (_root_.Go.part 4 #[.bool a0, .bool a1, .bool a2, .bool a3, .bool a4, .bool a5, .bool a6, .bool a7, .int .i64 a8, .int .u64 a9] 1).run Tryz.prog w = .ok (.bool a1) w := by kernel_rfl
theorem ppart_2 (a0 a1 a2 a3 a4 a5 a6 a7 : Bool) (a8 a9 : Int) (w : World) : (_root_.Go.part 4 #[.bool a0, .bool a1, .bool a2, .bool a3, .bool a4, .bool a5, .bool a6, .bool a7, .int .i64 a8, .int .u64 a9] 2).run Tryz.prog w = .ok (.bool a2) w := by kernel_rfl
theorem ppart_3 (a0 a1 a2 a3 a4 a5 a6 a7 : Bool) (a8 a9 : Int) (w : World) : (_root_.Go.part 4 #[.bool a0, .bool a1, .bool a2, .bool a3, .bool a4, .bool a5, .bool a6, .bool a7, .int .i64 a8, .int .u64 a9] 3).run Tryz.prog w = .ok (.bool a3) w := by kernel_rfl
theorem ppart_4 (a0 a1 a2 a3 a4 a5 a6 a7 : Bool) (a8 a9 : Int) (w : World) : (_root_.Go.part 4 #[.bool a0, .bool a1, .bool a2, .bool a3, .bool a4, .bool a5, .bool a6, .bool a7, .int .i64 a8, .int .u64 a9] 4).run Tryz.prog w = .ok (.bool a4) w := by kernel_rfl
theorem ppart_5 (a0 a1 a2 a3 a4 a5 a6 a7 : Bool) (a8 a9 : Int) (w : World) : (_root_.Go.part 4 #[.bool a0, .bool a1, .bool a2, .bool a3, .bool a4, .bool a5, .bool a6, .bool a7, .int .i64 a8, .int .u64 a9] 5).run Tryz.prog w = .ok (.bool a5) w := by kernel_rfl
theorem ppart_6 (a0 a1 a2 a3 a4 a5 a6 a7 : Bool) (a8 a9 : Int) (w : World) : (_root_.Go.part 4 #[.bool a0, .bool a1, .bool a2, .bool a3, .bool a4, .bool a5, .bool a6, .bool a7, .int .i64 a8, .int .u64 a9] 6).run Tryz.prog w = .ok (.bool a6) w := by kernel_rfl
theorem ppart_7 (a0 a1 a2 a3 a4 a5 a6 a7 : Bool) (a8 a9 : Int) (w : World) : (_root_.Go.part 4 #[.bool a0, .bool a1, .bool a2, .bool a3, .bool a4, .bool a5, .bool a6, .bool a7, .int .i64 a8, .int .u64 a9] 7).run Tryz.prog w = .ok (.bool a7) w := by kernel_rfl
theorem ppart_8 (a0 a1 a2 a3 a4 a5 a6 a7 : Bool) (a8 a9 : Int) (w : World) : (_root_.Go.part 3 #[.bool a0, .bool a1, .bool a2, .bool a3, .bool a4, .bool a5, .bool a6, .bool a7, .int .i64 a8, .int .u64 a9] 8).run Tryz.prog w = .ok (.int .i64 a8) w := by kernel_rfl
theorem ppart_9 (a0 a1 a2 a3 a4 a5 a6 a7 : Bool) (a8 a9 : Int) (w : World) : (_root_.Go.part 33 #[.bool a0, .bool a1, .bool a2, .bool a3, .bool a4, .bool a5, .bool a6, .bool a7, .int .i64 a8, .int .u64 a9] 9).run Tryz.prog w = .ok (.int .u64 a9) w := by kernel_rfl
theorem peqb (t : TypeId) (h : Tryz.prog.underlying t = some .bool) (a b : Bool) (w : World) : (Op.equalIn 9999 t (.bool a) (.bool b)).run Tryz.prog w = .ok (a == b) w := run_equalIn_bool w 9998 t a b h
theorem peqi (t : TypeId) (h : Tryz.prog.underlying t = some (.int .i64)) (a b : Int) (w : World) : (Op.equalIn 9999 t (.int .i64 a) (.int .i64 b)).run Tryz.prog w = .ok (a == b) w := run_equalIn_int w 9998 t .i64 .i64 a b h
theorem pequ (t : TypeId) (h : Tryz.prog.underlying t = some (.int .u64)) (a b : Int) (w : World) : (Op.equalIn 9999 t (.int .u64 a) (.int .u64 b)).run Tryz.prog w = .ok (a == b) w := run_equalIn_int w 9998 t .u64 .u64 a b h
theorem pte_eq (p : Pte) (w : World) : (Op.equalIn 10000 135 (.agg #[.bool p.v, .bool p.r, .bool p.w, .bool p.x, .bool p.u, .bool p.g, .bool p.a, .bool p.d, .int .i64 p.rsw, .int .u64 p.ppn]) (.agg #[.bool p.v, .bool p.r, .bool p.w, .bool p.x, .bool p.u, .bool p.g, .bool p.a, .bool p.d, .int .i64 p.rsw, .int .u64 p.ppn])).run Tryz.prog w = .ok true w := by
  rw [run_equalIn_agg w 9999 135 _ _ (by kernel_rfl) (by kernel_rfl)]
  simp [Program.fieldsOf, Tryz.underlying135, Op.eqFields, ppart_0, ppart_1, ppart_2, ppart_3, ppart_4, ppart_5, ppart_6, ppart_7, ppart_8, ppart_9, peqb 4 Tryz.underlying4, peqi 3 Tryz.underlying3, pequ 33 Tryz.underlying33]
set_option maxRecDepth 100000 in
theorem may_any (p : Pte) (hp : p.Ok) (h8 : rightP8 p = true) (hl : leafB p = true) (w : World) : Calls Tryz.prog 119 #[.agg #[.bool p.v, .bool p.r, .bool p.w, .bool p.x, .bool p.u, .bool p.g, .bool p.a, .bool p.d, .int .i64 p.rsw, .int .u64 p.ppn], .int .i64 0] w (RetW (.bool true) fun w' => Chg NoB w w') := by
  have H1 := Lib.hid fun w' => ptePut_any p hp w'
  have H2 := Lib.hid fun w' => pteGet_any (pteW p) (by have := pteW_lt p; omega) w'
  rw [pteG_W hp] at H2
  obtain ⟨ok, hok⟩ : ∃ ok, pteOkW (pteW p) = ok := ⟨_, rfl⟩
  rw [hok] at H2
  have H3 := Lib.hid fun w' => pteRight_any p w'
  have H4 := Lib.hid fun w' => pteLeaf_any p w'
  rw [h8] at H3
  rw [hl] at H4
  have hW := pteW_lt p
  obtain ⟨W, hWW⟩ : ∃ W, pteW p = W := ⟨_, rfl⟩
  rw [hWW] at H1 H2 hW
  have hpp : p.ppn < 17592186044416 := hp.2.2
  clear hok hp hWW h8 hl
  obtain ⟨v, r, pw, x, u, g, a, d, rsw, ppn⟩ := p
  have HC0 := Lib.hid ((Chg.refl NoB w).alloc (.cells #[.bool v, .bool r, .bool pw, .bool x, .bool u, .bool g, .bool a, .bool d, .int .i64 rsw, .int .u64 ppn] 135))
  have HB0 := Lib.hid (Blk.new w #[.bool v, .bool r, .bool pw, .bool x, .bool u, .bool g, .bool a, .bool d, .int .i64 rsw, .int .u64 ppn] 135)
  go_enter Tryz.func119, Tryz.ntmps119
  go_upto_region 1 with fail
  generalize w.alloc (.cells #[.bool v, .bool r, .bool pw, .bool x, .bool u, .bool g, .bool a, .bool d, .int .i64 rsw, .int .u64 ppn] 135) = w1 at *
  have x0 := HB0.out.cell' (i := 0) (v := .bool v) rfl
  have x1 := HB0.out.cell' (i := 1) (v := .bool r) rfl
  have x2 := HB0.out.cell' (i := 2) (v := .bool pw) rfl
  have x3 := HB0.out.cell' (i := 3) (v := .bool x) rfl
  have x4 := HB0.out.cell' (i := 4) (v := .bool u) rfl
  have x5 := HB0.out.cell' (i := 5) (v := .bool g) rfl
  have x6 := HB0.out.cell' (i := 6) (v := .bool a) rfl
  have x7 := HB0.out.cell' (i := 7) (v := .bool d) rfl
  have x8 := HB0.out.cell' (i := 8) (v := .int .i64 rsw) rfl
  have x9 := HB0.out.cell' (i := 9) (v := .int .u64 ppn) rfl
  have hxl := HB0.out.lt
  go_wp2_with fail
  with_reducible refine (H1.out _).mono ?_
  rintro e w2 ⟨rfl, C2⟩
  go_wp2_with fail
  with_reducible refine (H2.out _).mono ?_
  rintro e w3 ⟨rfl, C3⟩
  have HC1 := Lib.hid (((HC0.out.step C2).step C3).alloc (.cells #[.bool v, .bool r, .bool pw, .bool x, .bool u, .bool g, .bool a, .bool d, .int .i64 rsw, .int .u64 ppn] 135))
  have HB1 := Lib.hid ((C3.blk0 (C2.blk0 HB0.out)).alloc (.cells #[.bool v, .bool r, .bool pw, .bool x, .bool u, .bool g, .bool a, .bool d, .int .i64 rsw, .int .u64 ppn] 135))
  have HQ1 := Lib.hid (Blk.new w3 #[.bool v, .bool r, .bool pw, .bool x, .bool u, .bool g, .bool a, .bool d, .int .i64 rsw, .int .u64 ppn] 135)
  clear C2 C3 x0 x1 x2 x3 x4 x5 x6 x7 x8 x9 hxl
  go_upto_region 2 with fail
  generalize w3.alloc (.cells #[.bool v, .bool r, .bool pw, .bool x, .bool u, .bool g, .bool a, .bool d, .int .i64 rsw, .int .u64 ppn] 135) = w4 at *
  obtain ⟨qb, hqb⟩ : ∃ qb, w3.heap.size = qb := ⟨_, rfl⟩
  rw [hqb] at HQ1 ⊢
  clear hqb
  have x0 := HB1.out.drew.cell' (i := 0) (v := .bool v) rfl
  have x1 := HB1.out.drew.cell' (i := 1) (v := .bool r) rfl
  have x2 := HB1.out.drew.cell' (i := 2) (v := .bool pw) rfl
  have x3 := HB1.out.drew.cell' (i := 3) (v := .bool x) rfl
  have x4 := HB1.out.drew.cell' (i := 4) (v := .bool u) rfl
  have x5 := HB1.out.drew.cell' (i := 5) (v := .bool g) rfl
  have x6 := HB1.out.drew.cell' (i := 6) (v := .bool a) rfl
  have x7 := HB1.out.drew.cell' (i := 7) (v := .bool d) rfl
  have x8 := HB1.out.drew.cell' (i := 8) (v := .int .i64 rsw) rfl
  have x9 := HB1.out.drew.cell' (i := 9) (v := .int .u64 ppn) rfl
  have y0 := HQ1.out.drew.cell' (i := 0) (v := .bool v) rfl
  have y1 := HQ1.out.drew.cell' (i := 1) (v := .bool r) rfl
  have y2 := HQ1.out.drew.cell' (i := 2) (v := .bool pw) rfl
  have y3 := HQ1.out.drew.cell' (i := 3) (v := .bool x) rfl
  have y4 := HQ1.out.drew.cell' (i := 4) (v := .bool u) rfl
  have y5 := HQ1.out.drew.cell' (i := 5) (v := .bool g) rfl
  have y6 := HQ1.out.drew.cell' (i := 6) (v := .bool a) rfl
  have y7 := HQ1.out.drew.cell' (i := 7) (v := .bool d) rfl
  have y8 := HQ1.out.drew.cell' (i := 8) (v := .int .i64 rsw) rfl
  have y9 := HQ1.out.drew.cell' (i := 9) (v := .int .u64 ppn) rfl
  have cX := HC1.out.drew
  have hq := pte_eq ⟨v, r, pw, x, u, g, a, d, rsw, ppn⟩
  have hqg := pte_guard
  have he := and_zero ppn (by omega)
  have HF := Lib.hid (show bits .and .u64 (ppn : Int) (IntKind.u64.wrap (IntKind.u64.wrap 1 - 1)) = 0 from he)
  have hsh := shl_zero
  have hwz := wrap_zero
  clear HC0 HB0 HC1 HB1 HQ1
  go_region_held3 (fun w' => w'.cell? ⟨w.heap.size, 0, none⟩ = some (.bool v) ∧ w'.cell? ⟨w.heap.size, 1, none⟩ = some (.bool r) ∧ w'.cell? ⟨w.heap.size, 2, none⟩ = some (.bool pw) ∧ w'.cell? ⟨w.heap.size, 3, none⟩ = some (.bool x) ∧ w'.cell? ⟨w.heap.size, 4, none⟩ = some (.bool u) ∧ w'.cell? ⟨w.heap.size, 5, none⟩ = some (.bool g) ∧ w'.cell? ⟨w.heap.size, 6, none⟩ = some (.bool a) ∧ w'.cell? ⟨w.heap.size, 7, none⟩ = some (.bool d) ∧ w'.cell? ⟨w.heap.size, 8, none⟩ = some (.int .i64 rsw) ∧ w'.cell? ⟨w.heap.size, 9, none⟩ = some (.int .u64 ppn) ∧ w'.cell? ⟨qb, 0, none⟩ = some (.bool v) ∧ w'.cell? ⟨qb, 1, none⟩ = some (.bool r) ∧ w'.cell? ⟨qb, 2, none⟩ = some (.bool pw) ∧ w'.cell? ⟨qb, 3, none⟩ = some (.bool x) ∧ w'.cell? ⟨qb, 4, none⟩ = some (.bool u) ∧ w'.cell? ⟨qb, 5, none⟩ = some (.bool g) ∧ w'.cell? ⟨qb, 6, none⟩ = some (.bool a) ∧ w'.cell? ⟨qb, 7, none⟩ = some (.bool d) ∧ w'.cell? ⟨qb, 8, none⟩ = some (.int .i64 rsw) ∧ w'.cell? ⟨qb, 9, none⟩ = some (.int .u64 ppn) ∧ Chg NoB w w') (exact ⟨by assumption, by assumption, by assumption, by assumption, by assumption, by assumption, by assumption, by assumption, by assumption, by assumption, by assumption, by assumption, by assumption, by assumption, by assumption, by assumption, by assumption, by assumption, by assumption, by assumption, by assumption⟩)
    (first
      | (go_at_call 101; (with_reducible refine (H3.out _).mono ?_); rintro e wa ⟨rfl, Ca⟩; have x0' := Ca.cell (a := ⟨w.heap.size, 0, none⟩) (v := .bool v) (by assumption) id; have x1' := Ca.cell (a := ⟨w.heap.size, 1, none⟩) (v := .bool r) (by assumption) id; have x2' := Ca.cell (a := ⟨w.heap.size, 2, none⟩) (v := .bool pw) (by assumption) id; have x3' := Ca.cell (a := ⟨w.heap.size, 3, none⟩) (v := .bool x) (by assumption) id; have x4' := Ca.cell (a := ⟨w.heap.size, 4, none⟩) (v := .bool u) (by assumption) id; have x5' := Ca.cell (a := ⟨w.heap.size, 5, none⟩) (v := .bool g) (by assumption) id; have x6' := Ca.cell (a := ⟨w.heap.size, 6, none⟩) (v := .bool a) (by assumption) id; have x7' := Ca.cell (a := ⟨w.heap.size, 7, none⟩) (v := .bool d) (by assumption) id; have x8' := Ca.cell (a := ⟨w.heap.size, 8, none⟩) (v := .int .i64 rsw) (by assumption) id; have x9' := Ca.cell (a := ⟨w.heap.size, 9, none⟩) (v := .int .u64 ppn) (by assumption) id; have y0' := Ca.cell (a := ⟨qb, 0, none⟩) (v := .bool v) (by assumption) id; have y1' := Ca.cell (a := ⟨qb, 1, none⟩) (v := .bool r) (by assumption) id; have y2' := Ca.cell (a := ⟨qb, 2, none⟩) (v := .bool pw) (by assumption) id; have y3' := Ca.cell (a := ⟨qb, 3, none⟩) (v := .bool x) (by assumption) id; have y4' := Ca.cell (a := ⟨qb, 4, none⟩) (v := .bool u) (by assumption) id; have y5' := Ca.cell (a := ⟨qb, 5, none⟩) (v := .bool g) (by assumption) id; have y6' := Ca.cell (a := ⟨qb, 6, none⟩) (v := .bool a) (by assumption) id; have y7' := Ca.cell (a := ⟨qb, 7, none⟩) (v := .bool d) (by assumption) id; have y8' := Ca.cell (a := ⟨qb, 8, none⟩) (v := .int .i64 rsw) (by assumption) id; have y9' := Ca.cell (a := ⟨qb, 9, none⟩) (v := .int .u64 ppn) (by assumption) id; have HC' := Chg.step (by assumption) Ca; clear Ca)
        | (go_at_call 102; (with_reducible refine (H4.out _).mono ?_); rintro e wb ⟨rfl, Cb⟩; have x0' := Cb.cell (a := ⟨w.heap.size, 0, none⟩) (v := .bool v) (by assumption) id; have x1' := Cb.cell (a := ⟨w.heap.size, 1, none⟩) (v := .bool r) (by assumption) id; have x2' := Cb.cell (a := ⟨w.heap.size, 2, none⟩) (v := .bool pw) (by assumption) id; have x3' := Cb.cell (a := ⟨w.heap.size, 3, none⟩) (v := .bool x) (by assumption) id; have x4' := Cb.cell (a := ⟨w.heap.size, 4, none⟩) (v := .bool u) (by assumption) id; have x5' := Cb.cell (a := ⟨w.heap.size, 5, none⟩) (v := .bool g) (by assumption) id; have x6' := Cb.cell (a := ⟨w.heap.size, 6, none⟩) (v := .bool a) (by assumption) id; have x7' := Cb.cell (a := ⟨w.heap.size, 7, none⟩) (v := .bool d) (by assumption) id; have x8' := Cb.cell (a := ⟨w.heap.size, 8, none⟩) (v := .int .i64 rsw) (by assumption) id; have x9' := Cb.cell (a := ⟨w.heap.size, 9, none⟩) (v := .int .u64 ppn) (by assumption) id; have y0' := Cb.cell (a := ⟨qb, 0, none⟩) (v := .bool v) (by assumption) id; have y1' := Cb.cell (a := ⟨qb, 1, none⟩) (v := .bool r) (by assumption) id; have y2' := Cb.cell (a := ⟨qb, 2, none⟩) (v := .bool pw) (by assumption) id; have y3' := Cb.cell (a := ⟨qb, 3, none⟩) (v := .bool x) (by assumption) id; have y4' := Cb.cell (a := ⟨qb, 4, none⟩) (v := .bool u) (by assumption) id; have y5' := Cb.cell (a := ⟨qb, 5, none⟩) (v := .bool g) (by assumption) id; have y6' := Cb.cell (a := ⟨qb, 6, none⟩) (v := .bool a) (by assumption) id; have y7' := Cb.cell (a := ⟨qb, 7, none⟩) (v := .bool d) (by assumption) id; have y8' := Cb.cell (a := ⟨qb, 8, none⟩) (v := .int .i64 rsw) (by assumption) id; have y9' := Cb.cell (a := ⟨qb, 9, none⟩) (v := .int .u64 ppn) (by assumption) id; have HC' := Chg.step (by assumption) Cb; clear Cb))
  all_goals
    have HX := Lib.hid (by assumption : Chg NoB w _)
    clear x0 x1
    go_wp2_with fail
    go_ret
    exact ⟨congrArg Ending.returned (show Value.bool (bits .and .u64 (ppn : Int) (IntKind.u64.wrap (IntKind.u64.wrap 1 - 1)) == 0) = Value.bool true by rw [HF.out]; rfl), HX.out⟩
/-- A page is mapped, as far as its last table: where its entry is to stand; an error's number. -/
def ledF (root : Nat) (t : Tst) (va : Nat) : (Nat × Int) × Tst :=
  let r := leadF t (root * 4096 + 8 * idx va 2)
  if r.1.2 ≠ 0 then ((0, r.1.2), r.2)
  else
    let q := leadF r.2 (r.1.1 * 4096 + 8 * idx va 1)
    if q.1.2 ≠ 0 then ((0, q.1.2), q.2) else ((q.1.1 * 4096 + 8 * idx va 0, 0), q.2)
theorem mapF_led (root : Nat) (t : Tst) (va : Nat) (p : Pte) (hc : canonB va = true) (hm : mayB p = true) :
    mapF root t va p = if (ledF root t va).1.2 ≠ 0 then ((ledF root t va).1.2, (ledF root t va).2)
      else if getW (ledF root t va).2.b (ledF root t va).1.1 8 ≠ 0 then (130, (ledF root t va).2)
      else (0, { (ledF root t va).2 with b := putW (ledF root t va).2.b (ledF root t va).1.1 8 (pteW p) }) := by
  unfold mapF ledF
  rw [hc, hm]
  dsimp only
  by_cases h1 : (leadF t (root * 4096 + 8 * idx va 2)).1.2 ≠ 0
  · simp [h1]
  · simp only [h1, if_false, Bool.not_true, Bool.or_self]
    by_cases h2 : (leadF (leadF t (root * 4096 + 8 * idx va 2)).2 ((leadF t (root * 4096 + 8 * idx va 2)).1.1 * 4096 + 8 * idx va 1)).1.2 ≠ 0
    · simp [h2]
    · simp [h2]
/-- Where tables lead to lies in the memory. -/
structure LedOk (fr root : Nat) (t : Tst) (va : Nat) : Prop where
  rt : root < fr
  h1 : (leadF t (root * 4096 + 8 * idx va 2)).1.2 = 0 → (leadF t (root * 4096 + 8 * idx va 2)).1.1 < fr
  h2 : (leadF t (root * 4096 + 8 * idx va 2)).1.2 = 0 → (leadF (leadF t (root * 4096 + 8 * idx va 2)).2 ((leadF t (root * 4096 + 8 * idx va 2)).1.1 * 4096 + 8 * idx va 1)).1.2 = 0 →
    (leadF (leadF t (root * 4096 + 8 * idx va 2)).2 ((leadF t (root * 4096 + 8 * idx va 2)).1.1 * 4096 + 8 * idx va 1)).1.1 < fr
end Go.Proofs.YtdjaeoeejcmhdaaGreatDoor
