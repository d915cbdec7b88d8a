/- Tables: a page is mapped. No condition. -/
import Derived.Test.YtdjaeoeejcmhdaaGreatDoorGk
import Derived.LoopN
set_option linter.unusedVariables false
set_option linter.unusedSimpArgs false
namespace Go.Proofs.YtdjaeoeejcmhdaaGreatDoor
open Go.RowKit Go.RR
theorem TabAt.wide {w w'' : World} {SM S' : Nat → Prop} {mb fr sb mp tb root : Nat} {t t' : Tst} (h : TabAt w'' S' mb fr sb mp tb root t') (h0 : TabAt w SM mb fr sb mp tb root t) (hs : ∀ k, S' k → SM k ∨ w.heap.size ≤ k) : TabAt w'' (Grow SM w) mb fr sb mp tb root t' := by
  have := h0.stk.blk.lt; have := h0.stk.map.lt; have := h0.tab.lt
  exact ⟨h.mem.mono fun k _ e => hs k e, h.stk, h.tab, fun e => e.elim h0.n1 (fun e => by omega), fun e => e.elim h0.n2 (fun e => by omega), fun e => e.elim h0.n3 (fun e => by omega), h.n4, h.n5, h.ok, h.us, h.fr⟩
theorem TabAt.old {w : World} {SM : Nat → Prop} {mb fr sb mp tb root : Nat} {t : Tst} (h : TabAt w SM mb fr sb mp tb root t) : TabAt w (fun k => SM k ∧ k < w.heap.size) mb fr sb mp tb root t :=
  h.mono fun k hk => ⟨fun e => ⟨e, hk⟩, fun e => e.1⟩
set_option maxHeartbeats 4000000 in
set_option maxRecDepth 100000 in
theorem map_any {SM : Nat → Prop} {w : World} {mb fr sb mp tb root : Nat} {t : Tst} (h : TabAt w SM mb fr sb mp tb root t) (va : Nat) (p : Pte) (hv : va < 18446744073709551616) (hc : canonB va = true) (hp : p.Ok) (h8 : rightP8 p = true) (hl : leafB p = true) (hL : LedOk fr root t va) :
    Calls Tryz.prog 81 #[.pointer (some ⟨tb, 0, none⟩), .int .u64 va, .int .i64 0, .agg #[.bool p.v, .bool p.r, .bool p.w, .bool p.x, .bool p.u, .bool p.g, .bool p.a, .bool p.d, .int .i64 p.rsw, .int .u64 p.ppn]] w
      (RetW (.int .i64 (mapF root t va p).1) fun w' => TabAt w' (Grow SM w) mb fr sb mp tb root (mapF root t va p).2 ∧ Chg (TS SM sb mp tb) w w') := by
  have HM := Lib.hid (mapF_led root t va p hc (by unfold mayB mayL; rw [pteG_W hp, decide_eq_true rfl, h8, hl, show evenB p.ppn 0 = true from decide_eq_true (Nat.mod_one _)]; rfl))
  have H0 := Lib.hid h
  obtain ⟨D, hD⟩ : ∃ D : Nat → Prop, (fun k => SM k ∧ k < w.heap.size) = D := ⟨_, rfl⟩
  have H := Lib.hid h.old
  rw [hD] at H
  have HDk : Hid ((∀ k, D k → SM k) ∧ ¬ TS D sb mp tb w.heap.size) := Lib.hid (by
    rw [← hD]
    have := h.stk.blk.lt; have := h.stk.map.lt; have := h.tab.lt
    exact ⟨fun k e => e.1, fun e => by
      rcases e with e | e | e | e
      · exact Nat.lt_irrefl _ e.2
      all_goals omega⟩)
  have HCn := Lib.hid fun w' => canon_any va w' hv
  rw [hc] at HCn
  have HMay := Lib.hid fun w' => may_any p hp h8 hl w'
  have HPut := Lib.hid fun w' => ptePut_any p hp w'
  have hW := pteW_lt p
  obtain ⟨W, hWW⟩ : ∃ W, pteW p = W := ⟨_, rfl⟩
  rw [hWW] at HPut HM hW
  have HFR := Lib.hid (And.intro h.fr hL.rt)
  have HAt := fun (f : Nat) (l : Int) (hf : f < fr) (hl : levelB l = true) w' => at_any f va l w' (by have := HFR.out.1; omega) hv hl
  have hi9 : ∀ l, idx va l < 512 := fun l => Nat.mod_lt _ (by omega)
  have hpl : ∀ f l, f < fr → (f * 4096 + 8 * idx va l) / 4096 < fr ∧ (f * 4096 + 8 * idx va l) % 8 = 0 := fun f l hf => by have := hi9 l; omega
  obtain ⟨rr, hr⟩ : ∃ r, leadF t (root * 4096 + 8 * idx va 2) = r := ⟨_, rfl⟩
  obtain ⟨qq, hq⟩ : ∃ q, leadF rr.2 (rr.1.1 * 4096 + 8 * idx va 1) = q := ⟨_, rfl⟩
  have HR1 := hL.h1
  have HQ1 := hL.h2
  rw [hr] at HR1 HQ1
  rw [hq] at HQ1
  have HLed0 : ledF root t va = if rr.1.2 ≠ 0 then ((0, rr.1.2), rr.2) else if qq.1.2 ≠ 0 then ((0, qq.1.2), qq.2) else ((qq.1.1 * 4096 + 8 * idx va 0, 0), qq.2) := by
    subst hq
    subst hr
    rfl
  obtain ⟨P2, hP2⟩ : ∃ P, root * 4096 + 8 * idx va 2 = P := ⟨_, rfl⟩
  obtain ⟨P1, hP1⟩ : ∃ P, rr.1.1 * 4096 + 8 * idx va 1 = P := ⟨_, rfl⟩
  obtain ⟨P0, hP0⟩ : ∃ P, qq.1.1 * 4096 + 8 * idx va 0 = P := ⟨_, rfl⟩
  have HAt2 : Hid (∀ w', Calls Tryz.prog 121 #[.int .u64 root, .int .u64 va, .int .i64 2] w' (RetW (.int .u64 P2) fun w'' => w'' = w')) := Lib.hid fun w' => by
    have := HAt root 2 hL.rt rfl w'
    rwa [show (2 : Int).toNat = 2 from rfl, hP2] at this
  have HAt1 : Hid (rr.1.2 = 0 → ∀ w', Calls Tryz.prog 121 #[.int .u64 rr.1.1, .int .u64 va, .int .i64 1] w' (RetW (.int .u64 P1) fun w'' => w'' = w')) := Lib.hid fun h0 w' => by
    have := HAt rr.1.1 1 (HR1 h0) rfl w'
    rwa [show (1 : Int).toNat = 1 from rfl, hP1] at this
  have HAt0 : Hid (rr.1.2 = 0 → qq.1.2 = 0 → ∀ w', Calls Tryz.prog 121 #[.int .u64 qq.1.1, .int .u64 va, .int .i64 0] w' (RetW (.int .u64 P0) fun w'' => w'' = w')) := Lib.hid fun h0 h1 w' => by
    have := HAt qq.1.1 0 (HQ1 h0 h1) rfl w'
    rwa [show (0 : Int).toNat = 0 from rfl, hP0] at this
  have HP0 : Hid (rr.1.2 = 0 → qq.1.2 = 0 → P0 / 4096 < fr ∧ P0 % 8 = 0) := Lib.hid fun h0 h1 => by rw [← hP0]; exact hpl _ 0 (HQ1 h0 h1)
  have HLd : Hid (∀ w', TabAt w' D mb fr sb mp tb root t → Calls Tryz.prog 120 #[.pointer (some ⟨tb, 0, none⟩), .int .u64 P2] w' (RetW (.tuple #[.int .u64 rr.1.1, .int .i64 rr.1.2]) fun w'' => TabAt w'' (Grow D w') mb fr sb mp tb root rr.2 ∧ Chg (TS D sb mp tb) w' w'')) := Lib.hid fun w' T => by
    have := lead_any T (root * 4096 + 8 * idx va 2) (hpl root 2 hL.rt).1 (hpl root 2 hL.rt).2
    rwa [hr, hP2] at this
  have HLd2 : Hid (rr.1.2 = 0 → ∀ S' w', TabAt w' S' mb fr sb mp tb root rr.2 → Calls Tryz.prog 120 #[.pointer (some ⟨tb, 0, none⟩), .int .u64 P1] w' (RetW (.tuple #[.int .u64 qq.1.1, .int .i64 qq.1.2]) fun w'' => TabAt w'' (Grow S' w') mb fr sb mp tb root qq.2 ∧ Chg (TS S' sb mp tb) w' w'')) := Lib.hid fun h0 S' w' T => by
    have := lead_any T (rr.1.1 * 4096 + 8 * idx va 1) (hpl _ 1 (HR1 h0)).1 (hpl _ 1 (HR1 h0)).2
    rwa [hq, hP1] at this
  rw [hP0] at HLed0
  have HLed := Lib.hid HLed0
  have HR := Lib.hid HR1
  have HQ := Lib.hid HQ1
  have hroot : (root : Int) < 1048576 := by have := hL.rt; have := h.fr; omega
  have HRt := Lib.hid hL.rt
  clear hr hq hi9 HR1 HQ1 hL h HAt hD hpl hP0 hP1 hP2 HLed0
  clear hv hc hp h8 hl hWW
  obtain ⟨v, r, pw, x, u, g, a, d, rsw, ppn⟩ := p
  have HCZ := Lib.hid ((Chg.refl NoB w).alloc (.cells #[.bool v, .bool r, .bool pw, .bool x, .bool u, .bool g, .bool a, .bool d, .int .i64 rsw, .int .u64 ppn] 135))
  have HBZ := Lib.hid (Blk.new w #[.bool v, .bool r, .bool pw, .bool x, .bool u, .bool g, .bool a, .bool d, .int .i64 rsw, .int .u64 ppn] 135)
  go_enter Tryz.func81, Tryz.ntmps81
  go_upto_region 1 with fail
  generalize w.alloc (.cells #[.bool v, .bool r, .bool pw, .bool x, .bool u, .bool g, .bool a, .bool d, .int .i64 rsw, .int .u64 ppn] 135) = w1 at *
  have x0 := HBZ.out.cell' (i := 0) (v := .bool v) rfl
  have x1 := HBZ.out.cell' (i := 1) (v := .bool r) rfl
  have x2 := HBZ.out.cell' (i := 2) (v := .bool pw) rfl
  have x3 := HBZ.out.cell' (i := 3) (v := .bool x) rfl
  have x4 := HBZ.out.cell' (i := 4) (v := .bool u) rfl
  have x5 := HBZ.out.cell' (i := 5) (v := .bool g) rfl
  have x6 := HBZ.out.cell' (i := 6) (v := .bool a) rfl
  have x7 := HBZ.out.cell' (i := 7) (v := .bool d) rfl
  have x8 := HBZ.out.cell' (i := 8) (v := .int .i64 rsw) rfl
  have x9 := HBZ.out.cell' (i := 9) (v := .int .u64 ppn) rfl
  have hxl := HBZ.out.lt
  have e2 := (H.out.chg0 HCZ.out).tab.cell' (i := 2) (v := .int .i64 root) rfl
  have hl := (H.out.chg0 HCZ.out).tab.lt
  go_wp2_with fail
  with_reducible refine (HCn.out _).mono ?_
  rintro e w2 ⟨rfl, hw2⟩
  subst hw2
  go_wp2_with fail
  with_reducible refine (HMay.out _).mono ?_
  rintro e w3 ⟨rfl, C3⟩
  have HT3 := Lib.hid ((H.out.chg0 HCZ.out).chg0 C3)
  have HC3 := Lib.hid (HCZ.out.step C3)
  have HB3 := Lib.hid (C3.blk0 HBZ.out)
  have e2 := HT3.out.tab.cell' (i := 2) (v := .int .i64 root) rfl
  have hl := HT3.out.tab.lt
  clear C3 x0 x1 x2 x3 x4 x5 x6 x7 x8 x9 hxl
  go_wp2_with fail
  refine wp_loop_rounds 3 ?_
  rw [rounds_succ]
  clear e2
  go_wp2_with fail
  with_reducible refine (HAt2.out _).mono ?_
  rintro e w4 ⟨rfl, hw4⟩
  subst hw4
  go_wp2_with fail
  with_reducible refine (HLd.out _ HT3.out).mono ?_
  rintro e w5 ⟨rfl, T5, C5⟩
  obtain ⟨⟨r1, r2⟩, t1⟩ := rr
  obtain ⟨⟨q1, q2⟩, t2⟩ := qq
  have hsz := HB3.out.lt
  have HB5 := Lib.hid (C5.blk HB3.out HDk.out.2)
  have HN5 : Hid (¬ TS (Grow D w4) sb mp tb w.heap.size) := Lib.hid fun e => by
    rcases e with (e | e) | e
    · exact HDk.out.2 (.inl e)
    · omega
    · exact HDk.out.2 (.inr e)
  have HS5 := Lib.hid C5.size
  have HT5 := Lib.hid T5
  have HW5 := Lib.hid (T5.wide H0.out fun k e => e.elim (fun e => .inl (HDk.out.1 k e)) fun e => .inr (by omega))
  have HC5 : Hid (Chg (TS SM sb mp tb) w w5) := Lib.hid ((HC3.out.mono (S' := TS SM sb mp tb) fun _ _ e => e.elim).trans C5 fun k _ e => e.elim (fun e => .inl (HDk.out.1 k e)) .inr)
  clear T5 C5 hsz
  have HFail : Hid (∀ w6 t' e', e' ≠ 0 → ledF root t va = ((0, e'), t') → TabAt w6 (Grow SM w) mb fr sb mp tb root t' → Chg (TS SM sb mp tb) w w6 → mapF root t va ⟨v, r, pw, x, u, g, a, d, rsw, ppn⟩ = (e', t')) := Lib.hid fun w6 t' e' he hl _ _ => by
    rw [HM.out, hl]
    exact if_pos he
  by_cases h1 : r2 = 0
  · subst h1
    go_wp2_with fail
    rw [rounds_succ]
    go_wp2_with fail
    with_reducible refine (HAt1.out (by simp) _).mono ?_
    rintro e w6 ⟨rfl, hw6⟩
    subst hw6
    go_wp2_with fail
    with_reducible refine (HLd2.out (by simp) _ _ HT5.out).mono ?_
    rintro e w7 ⟨rfl, T7, C7⟩
    have hs4 := HB3.out.lt
    have hs6 := HS5.out
    have HB7 := Lib.hid (C7.blk HB5.out HN5.out)
    have HT7 := Lib.hid (T7.wide H0.out fun k e => e.elim (fun e => e.elim (fun e => .inl (HDk.out.1 k e)) fun e => .inr (by omega)) fun e => .inr (by omega))
    have HC7 : Hid (Chg (TS SM sb mp tb) w w7) := Lib.hid (HC5.out.trans C7 fun k hk e => by
      rcases e with (e | e) | e
      · exact .inl (HDk.out.1 k e)
      · omega
      · exact .inr e)
    clear T7 C7 hs4 hs6
    by_cases h2 : q2 = 0
    · subst h2
      have HLe : Hid (ledF root t va = ((P0, 0), t2)) := Lib.hid (by rw [HLed.out, if_neg (by simp), if_neg (by simp)])
      have hp0 := HP0.out (by simp) (by simp)
      obtain ⟨V, hV⟩ : ∃ V, getW t2.b P0 8 = V := ⟨_, rfl⟩
      have HMap : Hid (mapF root t va ⟨v, r, pw, x, u, g, a, d, rsw, ppn⟩ = if V ≠ 0 then (130, t2) else (0, { t2 with b := putW t2.b P0 8 W })) := Lib.hid (by
        rw [HM.out, HLe.out]
        dsimp only
        rw [if_neg (by simp), hV])
      have HLo := Lib.hid (load8 HT7.out.mem P0 hp0.1 hp0.2 HFR.out.1)
      rw [hV] at HLo
      have HSt := Lib.hid fun w' (T : TabAt w' (Grow SM w) mb fr sb mp tb root t2) => store8 T.mem P0 W hp0.1 hp0.2 HFR.out.1 (by omega)
      have f0 := HT7.out.tab.cell' (i := 0) (v := .pointer (some ⟨mb, 0, none⟩)) rfl
      have hl := HT7.out.tab.lt
      clear hV hp0 HM HLe HLed
      go_wp2_with fail
      rw [rounds_succ]
      go_wp2_with fail
      with_reducible refine (HAt0.out (by simp) (by simp) _).mono ?_
      rintro e w8 ⟨rfl, hw8⟩
      subst hw8
      go_wp2_with fail
      with_reducible refine HLo.out.mono ?_
      rintro e w9 ⟨rfl, hw9⟩
      subst hw9
      by_cases hV0 : V = 0
      · subst hV0
        have HF : Hid (mapF root t va ⟨v, r, pw, x, u, g, a, d, rsw, ppn⟩ = (0, { t2 with b := putW t2.b P0 8 W })) := Lib.hid (by rw [HMap.out]; exact if_neg (by simp))
        go_upto_region 17 with fail
        have y0 := HB7.out.cell' (i := 0) (v := .bool v) rfl
        have y1 := HB7.out.cell' (i := 1) (v := .bool r) rfl
        have y2 := HB7.out.cell' (i := 2) (v := .bool pw) rfl
        have y3 := HB7.out.cell' (i := 3) (v := .bool x) rfl
        have y4 := HB7.out.cell' (i := 4) (v := .bool u) rfl
        have y5 := HB7.out.cell' (i := 5) (v := .bool g) rfl
        have y6 := HB7.out.cell' (i := 6) (v := .bool a) rfl
        have y7 := HB7.out.cell' (i := 7) (v := .bool d) rfl
        have y8 := HB7.out.cell' (i := 8) (v := .int .i64 rsw) rfl
        have y9 := HB7.out.cell' (i := 9) (v := .int .u64 ppn) rfl
        refine wp_region_take 7 [0, 1, 2, 3, 4, 5] [6] (fun w' => w'.cell? ⟨tb, 0, none⟩ = some (.pointer (some ⟨mb, 0, none⟩)) ∧ w'.cell? ⟨w.heap.size, 0, none⟩ = some (.bool v) ∧ w'.cell? ⟨w.heap.size, 1, none⟩ = some (.bool r) ∧ w'.cell? ⟨w.heap.size, 2, none⟩ = some (.bool pw) ∧ w'.cell? ⟨w.heap.size, 3, none⟩ = some (.bool x) ∧ w'.cell? ⟨w.heap.size, 4, none⟩ = some (.bool u) ∧ w'.cell? ⟨w.heap.size, 5, none⟩ = some (.bool g) ∧ w'.cell? ⟨w.heap.size, 6, none⟩ = some (.bool a) ∧ w'.cell? ⟨w.heap.size, 7, none⟩ = some (.bool d) ∧ w'.cell? ⟨w.heap.size, 8, none⟩ = some (.int .i64 rsw) ∧ w'.cell? ⟨w.heap.size, 9, none⟩ = some (.int .u64 ppn)) (by kernel_rfl) (by kernel_rfl) (fun _ _ _ _ _ h => h) (⟨f0, y0, y1, y2, y3, y4, y5, y6, y7, y8, y9⟩) ?_
        simp only [pickOps_nil, pickOps_cons, Option.getD_some, List.getElem?_toArray, List.getElem?_cons_zero, List.getElem?_cons_succ, List.cons_append, List.nil_append, List.drop_succ_cons, List.drop_zero]
        repeat
          refine wpTake_cons' rfl ?_
          apply Exists.intro
          refine ⟨fun wS hS => ?_, ?_⟩
          · try dsimp only at hS
            obtain ⟨g, z0, z1, z2, z3, z4, z5, z6, z7, z8, z9⟩ := hS
            go_simp
            try rfl
          simp only [Act.put, List.setIfInBounds_toArray, List.set_cons_zero, List.set_cons_succ]
        refine wpTake_nil ?_
        refine wpForce_cons rfl (fun K hK => ?_)
        go_simp
        refine (HPut.out _).mono ?_
        rintro e wa ⟨rfl, Ca'⟩
        have Ca := Ca'.undrew
        have HTa := Lib.hid (HT7.out.chg0 Ca)
        have HCa := Lib.hid (HC7.out.then0 Ca)
        have HBa := Lib.hid (Ca.blk0 HB7.out)
        have f0 := HTa.out.tab.cell' (i := 0) (v := .pointer (some ⟨mb, 0, none⟩)) rfl
        have y0 := HBa.out.cell' (i := 0) (v := .bool v) rfl
        have y1 := HBa.out.cell' (i := 1) (v := .bool r) rfl
        have y2 := HBa.out.cell' (i := 2) (v := .bool pw) rfl
        have y3 := HBa.out.cell' (i := 3) (v := .bool x) rfl
        have y4 := HBa.out.cell' (i := 4) (v := .bool u) rfl
        have y5 := HBa.out.cell' (i := 5) (v := .bool g) rfl
        have y6 := HBa.out.cell' (i := 6) (v := .bool a) rfl
        have y7 := HBa.out.cell' (i := 7) (v := .bool d) rfl
        have y8 := HBa.out.cell' (i := 8) (v := .int .i64 rsw) rfl
        have y9 := HBa.out.cell' (i := 9) (v := .int .u64 ppn) rfl
        refine hK _ _ ⟨f0, y0, y1, y2, y3, y4, y5, y6, y7, y8, y9⟩ ?_
        refine wpForce_nil ?_
        clear hK K Ca Ca'
        go_wp2_with fail
        with_reducible refine (HSt.out _ HTa.out).mono ?_
        rintro e wb ⟨rfl, Mb, Cb⟩
        have HX : Hid (TabAt wb (Grow SM w) mb fr sb mp tb root { t2 with b := putW t2.b P0 8 W } ∧ Chg (TS SM sb mp tb) w wb) := Lib.hid ⟨(HTa.out.store Mb Cb).grow2 HCa.out.size, HCa.out.trans Cb fun k hk e => e.elim .inl fun e => by omega⟩
        clear Mb Cb
        go_wp2_with fail
        go_ret
        exact ⟨by rw [HF.out]; rfl, by rw [HF.out]; exact HX.out⟩
      · have b1 : ((V : Int) == 0) = false := beq_eq_false_iff_ne.2 (by omega)
        have b2 : ((V : Int) != 0) = true := by rw [bne, b1]; rfl
        have HF : Hid (mapF root t va ⟨v, r, pw, x, u, g, a, d, rsw, ppn⟩ = (130, t2)) := Lib.hid (by rw [HMap.out]; exact if_pos hV0)
        clear hV0
        go_wp2_with fail
        go_ret
        exact ⟨by rw [HF.out]; rfl, by rw [HF.out]; exact ⟨HT7.out, HC7.out⟩⟩
    · have b1 : (q2 == 0) = false := beq_eq_false_iff_ne.2 h2
      have b2 : (q2 != 0) = true := by rw [bne, b1]; rfl
      have HF := Lib.hid (HFail.out w7 t2 q2 h2 (by rw [HLed.out, if_neg (by simp)]; exact if_pos h2) HT7.out HC7.out)
      clear h2
      go_wp2_with fail
      go_ret
      exact ⟨by rw [HF.out]; rfl, by rw [HF.out]; exact ⟨HT7.out, HC7.out⟩⟩
  · have b1 : (r2 == 0) = false := beq_eq_false_iff_ne.2 h1
    have b2 : (r2 != 0) = true := by rw [bne, b1]; rfl
    have HF := Lib.hid (HFail.out w5 t1 r2 h1 (by rw [HLed.out]; exact if_pos h1) HW5.out HC5.out)
    clear h1
    go_wp2_with fail
    go_ret
    exact ⟨by rw [HF.out]; rfl, by rw [HF.out]; exact ⟨HW5.out, HC5.out⟩⟩
end Go.Proofs.YtdjaeoeejcmhdaaGreatDoor
