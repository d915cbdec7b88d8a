/- Tables: an address is found. No condition. Tables: a page's entry is changed. No condition. append on an owned slice that begins at the head of its block. No condition. -/
import Derived.Test.YtdjaeoeejcmhdaaGreatDoorGj
import Derived.Test.YtdjaeoeejcmhdaaGreatDoorGm
import Derived.Test.YtdjaeoeejcmhdaaGreatDoorGd
import Derived.Test.YtdjaeoeejcmhdaaGreatDoorGl
import Derived.Test.YtdjaeoeejcmhdaaGreatDoorGa
set_option linter.unusedVariables false
set_option linter.unusedSimpArgs false
namespace Go.Proofs.YtdjaeoeejcmhdaaGreatDoor
open Go.RowKit Go.RR
set_option maxHeartbeats 2000000 in
set_option maxRecDepth 100000 in
theorem tabFind_any {SM : Nat → Prop} {w : World} {mb fr sb mp tb root : Nat} {t : Tst} (h : TabAt w SM mb fr sb mp tb root t) (va : Nat) (hv : va < 18446744073709551616) (hr : root < fr) :
    Calls Tryz.prog 165 #[.pointer (some ⟨tb, 0, none⟩), .int .u64 va] w (RetW (.tuple #[(findF t.b fr root va).1.out, .int .i64 (findF t.b fr root va).2]) fun w' => Chg NoB w w') := by
  have e0 := h.tab.cell' (i := 0) (v := .pointer (some ⟨mb, 0, none⟩)) rfl
  have e2 := h.tab.cell' (i := 2) (v := .int .i64 root) rfl
  have hl := h.tab.lt
  have hroot : (root : Int) < 1048576 := by have := h.fr; omega
  have HF := Lib.hid fun w' (c : Chg NoB w w') => find_any (h.mem.chg0 c) va root 0 hv (by have := h.fr; omega) h.fr
  obtain ⟨⟨⟨⟨v, r, pw, x, u, g, a, d, rsw, ppn⟩, lv, pos⟩, ec⟩, hE⟩ : ∃ q, findF t.b fr root va = q := ⟨_, rfl⟩
  rw [hE] at HF ⊢
  simp only [Leaf.out] at HF
  have HCZ := (Chg.refl NoB w).alloc (.cells #[.bool false, .bool false, .bool false, .bool false, .bool false, .bool false, .bool false, .bool false, .int .i64 0, .int .u64 0, .int .i64 0, .int .u64 0] 137)
  have HBZ := Lib.hid (Blk.new w #[.bool false, .bool false, .bool false, .bool false, .bool false, .bool false, .bool false, .bool false, .int .i64 0, .int .u64 0, .int .i64 0, .int .u64 0] 137)
  have HCZ := Lib.hid HCZ
  have f0 := HCZ.out.cell e0 id
  have f2 := HCZ.out.cell e2 id
  have fl := Nat.lt_of_lt_of_le hl HCZ.out.size
  have htb := hl
  clear h hE hr e0 e2 hl
  go_enter Tryz.func165, Tryz.ntmps165
  go_upto_region 3 with fail
  generalize w.alloc (.cells #[.bool false, .bool false, .bool false, .bool false, .bool false, .bool false, .bool false, .bool false, .int .i64 0, .int .u64 0, .int .i64 0, .int .u64 0] 137) = w1 at *
  have HWR : Hid (IntKind.u64.wrap (root : Int) = root) := Lib.hid (by show (root : Int) % 18446744073709551616 = root; omega)
  refine wp_region_all 14 3 [0, 1, 2, 3, 4, 5, 6, 7, 8, 9, 10] (fun w' => w'.cell? ⟨tb, 0, none⟩ = some (.pointer (some ⟨mb, 0, none⟩)) ∧ w'.cell? ⟨tb, 2, none⟩ = some (.int .i64 root)) (by kernel_rfl) (by kernel_rfl) (fun _ _ _ _ _ h => h) (⟨f0, f2⟩) ?_
  simp only [pickOps_nil, pickOps_cons, Option.getD_some, List.getElem?_toArray, List.getElem?_cons_zero, List.getElem?_cons_succ, List.cons_append, List.nil_append, List.drop_succ_cons, List.drop_zero]
  repeat
    refine wpTake_cons' rfl ?_
    apply Exists.intro
    refine ⟨fun wS hS => ?_, ?_⟩
    · try dsimp only at hS
      obtain ⟨z0, z2⟩ := hS
      go_simp
      try rfl
    simp only [Act.put, List.setIfInBounds_toArray, List.set_cons_zero, List.set_cons_succ]
  refine wpTake_nil ?_
  refine wpAll_cons [11] (by kernel_rfl) ?_
  intro i hi
  simp only [List.mem_cons, List.not_mem_nil, or_false] at hi
  subst hi
  refine ⟨_, rfl, rfl, fun K hK => ?_⟩
  go_simp
  rw [HWR.out]
  with_reducible refine (HF.out _ HCZ.out.drew).mono ?_
  rintro e w3 ⟨rfl, C3⟩
  have f0 := C3.cell (a := ⟨tb, 0, none⟩) f0 id
  have f2 := C3.cell (a := ⟨tb, 2, none⟩) f2 id
  have HC := Lib.hid (HCZ.out.drew.step C3)
  have HR := Lib.hid (C3.blk0 HBZ.out.drew)
  clear C3
  refine hK _ _ ⟨f0, f2⟩ ?_
  clear hK K
  refine wpAll_cons [12, 13] (by kernel_rfl) ?_
  intro i hi
  simp only [List.mem_cons, List.not_mem_nil, or_false] at hi
  rcases hi with rfl | rfl
  ·
    refine ⟨_, rfl, rfl, fun K hK => ?_⟩
    go_simp
    refine hK _ _ ⟨f0, f2⟩ ?_
    clear hK K
    refine wpAll_cons [13] (by kernel_rfl) ?_
    intro i hi
    simp only [List.mem_cons, List.not_mem_nil, or_false] at hi
    subst hi
    refine ⟨_, rfl, rfl, fun K hK => ?_⟩
    go_simp
    refine hK _ _ ⟨f0, f2⟩ ?_
    clear hK K
    refine wpAll_nil ?_
    clear f0 f2 fl
    have r0 := HR.out.cell' (i := 0) (v := .bool false) rfl
    have rf0 := HR.out.frozen 0
    have r1 := HR.out.cell' (i := 1) (v := .bool false) rfl
    have rf1 := HR.out.frozen 1
    have r2 := HR.out.cell' (i := 2) (v := .bool false) rfl
    have rf2 := HR.out.frozen 2
    have r3 := HR.out.cell' (i := 3) (v := .bool false) rfl
    have rf3 := HR.out.frozen 3
    have r4 := HR.out.cell' (i := 4) (v := .bool false) rfl
    have rf4 := HR.out.frozen 4
    have r5 := HR.out.cell' (i := 5) (v := .bool false) rfl
    have rf5 := HR.out.frozen 5
    have r6 := HR.out.cell' (i := 6) (v := .bool false) rfl
    have rf6 := HR.out.frozen 6
    have r7 := HR.out.cell' (i := 7) (v := .bool false) rfl
    have rf7 := HR.out.frozen 7
    have r8 := HR.out.cell' (i := 8) (v := .int .i64 0) rfl
    have rf8 := HR.out.frozen 8
    have r9 := HR.out.cell' (i := 9) (v := .int .u64 0) rfl
    have rf9 := HR.out.frozen 9
    have r10 := HR.out.cell' (i := 10) (v := .int .i64 0) rfl
    have rf10 := HR.out.frozen 10
    have r11 := HR.out.cell' (i := 11) (v := .int .u64 0) rfl
    have rf11 := HR.out.frozen 11
    have hrl := HR.out.lt
    go_wp2_with fail
    exact bodyPost_ret (v := .tuple #[.agg #[.bool v, .bool r, .bool pw, .bool x, .bool u, .bool g, .bool a, .bool d, .int .i64 rsw, .int .u64 ppn, .int .i64 lv, .int .u64 pos], .int .i64 ec]) (by simp [results, Tryz.results165, go_sem, r0, r1, r2, r3, r4, r5, r6, r7, r8, r9, r10, r11, hrl]) rfl ⟨rfl, ((((((((((((HC.out.setCell (.inr (Nat.le_refl _)) _).setCell (.inr (Nat.le_refl _)) _).setCell (.inr (Nat.le_refl _)) _).setCell (.inr (Nat.le_refl _)) _).setCell (.inr (Nat.le_refl _)) _).setCell (.inr (Nat.le_refl _)) _).setCell (.inr (Nat.le_refl _)) _).setCell (.inr (Nat.le_refl _)) _).setCell (.inr (Nat.le_refl _)) _).setCell (.inr (Nat.le_refl _)) _).setCell (.inr (Nat.le_refl _)) _).setCell (.inr (Nat.le_refl _)) _)⟩
  ·
    refine ⟨_, rfl, rfl, fun K hK => ?_⟩
    go_simp
    refine hK _ _ ⟨f0, f2⟩ ?_
    clear hK K
    refine wpAll_cons [12] (by kernel_rfl) ?_
    intro i hi
    simp only [List.mem_cons, List.not_mem_nil, or_false] at hi
    subst hi
    refine ⟨_, rfl, rfl, fun K hK => ?_⟩
    go_simp
    refine hK _ _ ⟨f0, f2⟩ ?_
    clear hK K
    refine wpAll_nil ?_
    clear f0 f2 fl
    have r0 := HR.out.cell' (i := 0) (v := .bool false) rfl
    have rf0 := HR.out.frozen 0
    have r1 := HR.out.cell' (i := 1) (v := .bool false) rfl
    have rf1 := HR.out.frozen 1
    have r2 := HR.out.cell' (i := 2) (v := .bool false) rfl
    have rf2 := HR.out.frozen 2
    have r3 := HR.out.cell' (i := 3) (v := .bool false) rfl
    have rf3 := HR.out.frozen 3
    have r4 := HR.out.cell' (i := 4) (v := .bool false) rfl
    have rf4 := HR.out.frozen 4
    have r5 := HR.out.cell' (i := 5) (v := .bool false) rfl
    have rf5 := HR.out.frozen 5
    have r6 := HR.out.cell' (i := 6) (v := .bool false) rfl
    have rf6 := HR.out.frozen 6
    have r7 := HR.out.cell' (i := 7) (v := .bool false) rfl
    have rf7 := HR.out.frozen 7
    have r8 := HR.out.cell' (i := 8) (v := .int .i64 0) rfl
    have rf8 := HR.out.frozen 8
    have r9 := HR.out.cell' (i := 9) (v := .int .u64 0) rfl
    have rf9 := HR.out.frozen 9
    have r10 := HR.out.cell' (i := 10) (v := .int .i64 0) rfl
    have rf10 := HR.out.frozen 10
    have r11 := HR.out.cell' (i := 11) (v := .int .u64 0) rfl
    have rf11 := HR.out.frozen 11
    have hrl := HR.out.lt
    go_wp2_with fail
    exact bodyPost_ret (v := .tuple #[.agg #[.bool v, .bool r, .bool pw, .bool x, .bool u, .bool g, .bool a, .bool d, .int .i64 rsw, .int .u64 ppn, .int .i64 lv, .int .u64 pos], .int .i64 ec]) (by simp [results, Tryz.results165, go_sem, r0, r1, r2, r3, r4, r5, r6, r7, r8, r9, r10, r11, hrl]) rfl ⟨rfl, ((((((((((((HC.out.setCell (.inr (Nat.le_refl _)) _).setCell (.inr (Nat.le_refl _)) _).setCell (.inr (Nat.le_refl _)) _).setCell (.inr (Nat.le_refl _)) _).setCell (.inr (Nat.le_refl _)) _).setCell (.inr (Nat.le_refl _)) _).setCell (.inr (Nat.le_refl _)) _).setCell (.inr (Nat.le_refl _)) _).setCell (.inr (Nat.le_refl _)) _).setCell (.inr (Nat.le_refl _)) _).setCell (.inr (Nat.le_refl _)) _).setCell (.inr (Nat.le_refl _)) _)⟩
end Go.Proofs.YtdjaeoeejcmhdaaGreatDoor
set_option linter.unusedVariables false
set_option linter.unusedSimpArgs false
namespace Go.Proofs.YtdjaeoeejcmhdaaGreatDoor
open Go.RowKit Go.RR
set_option maxHeartbeats 2000000 in
set_option maxRecDepth 100000 in
theorem change_any {SM : Nat → Prop} {w : World} {mb fr sb mp tb root : Nat} {t : Tst} (h : TabAt w SM mb fr sb mp tb root t) (va : Nat) (p P : Pte) (pos : Nat) (hv : va < 18446744073709551616) (hr : root < fr) (hp : p.Ok) (h8 : rightP8 p = true) (hlf : leafB p = true)
    (hF : findF t.b fr root va = (⟨P, 0, pos⟩, 0)) (hp1 : pos / 4096 < fr) (hp2 : pos % 8 = 0) :
    Calls Tryz.prog 131 #[.pointer (some ⟨tb, 0, none⟩), .int .u64 va, .agg #[.bool p.v, .bool p.r, .bool p.w, .bool p.x, .bool p.u, .bool p.g, .bool p.a, .bool p.d, .int .i64 p.rsw, .int .u64 p.ppn]] w
      (RetW (.int .i64 0) fun w' => TabAt w' (Grow SM w) mb fr sb mp tb root { t with b := putW t.b pos 8 (pteW p) } ∧ Chg (TS SM sb mp tb) w w') := by
  have H := Lib.hid h
  have HFd := Lib.hid fun w' (c : Chg NoB w w') => tabFind_any (h.chg0 c) va hv hr
  rw [hF] at HFd
  simp only [Leaf.out] at HFd
  have HMay := Lib.hid fun w' => may_any p hp h8 hlf w'
  have HPut := Lib.hid fun w' => ptePut_any p hp w'
  have hW := pteW_lt p
  obtain ⟨W, hWW⟩ : ∃ W, pteW p = W := ⟨_, rfl⟩
  rw [hWW] at HPut hW ⊢
  have HSt := Lib.hid fun w' (T : TabAt w' SM mb fr sb mp tb root t) => store8 T.mem pos W hp1 hp2 h.fr (by omega)
  clear h hF hv hr hp h8 hlf hp1 hp2 hWW
  obtain ⟨v, r, pw, x, u, g, a, d, rsw, ppn⟩ := p
  obtain ⟨lv, lr, lw, lx, lu, lg, la, ld, lrs, lpp⟩ := P
  have HCZ := Lib.hid ((Chg.refl NoB w).alloc (.cells #[.bool v, .bool r, .bool pw, .bool x, .bool u, .bool g, .bool a, .bool d, .int .i64 rsw, .int .u64 ppn] 135))
  have HBZ := Lib.hid (Blk.new w #[.bool v, .bool r, .bool pw, .bool x, .bool u, .bool g, .bool a, .bool d, .int .i64 rsw, .int .u64 ppn] 135)
  go_enter Tryz.func131, Tryz.ntmps131
  go_upto_region 1 with fail
  generalize w.alloc (.cells #[.bool v, .bool r, .bool pw, .bool x, .bool u, .bool g, .bool a, .bool d, .int .i64 rsw, .int .u64 ppn] 135) = w1 at *
  go_wp2_with fail
  with_reducible refine (HFd.out _ HCZ.out).mono ?_
  rintro e w2 ⟨rfl, C2⟩
  have HC2 := Lib.hid ((HCZ.out.step C2).alloc (.cells #[.bool lv, .bool lr, .bool lw, .bool lx, .bool lu, .bool lg, .bool la, .bool ld, .int .i64 lrs, .int .u64 lpp, .int .i64 0, .int .u64 pos] 137))
  have HB2 := Lib.hid ((C2.blk0 HBZ.out).alloc (.cells #[.bool lv, .bool lr, .bool lw, .bool lx, .bool lu, .bool lg, .bool la, .bool ld, .int .i64 lrs, .int .u64 lpp, .int .i64 0, .int .u64 pos] 137))
  have HL2 := Lib.hid (Blk.new w2 #[.bool lv, .bool lr, .bool lw, .bool lx, .bool lu, .bool lg, .bool la, .bool ld, .int .i64 lrs, .int .u64 lpp, .int .i64 0, .int .u64 pos] 137)
  clear C2
  go_upto_region 2 with fail
  generalize w2.alloc (.cells #[.bool lv, .bool lr, .bool lw, .bool lx, .bool lu, .bool lg, .bool la, .bool ld, .int .i64 lrs, .int .u64 lpp, .int .i64 0, .int .u64 pos] 137) = w3 at *
  obtain ⟨lb, hlb⟩ : ∃ lb, w2.heap.size = lb := ⟨_, rfl⟩
  rw [hlb] at HL2 ⊢
  clear hlb
  have y0 := HB2.out.cell' (i := 0) (v := .bool v) rfl
  have y1 := HB2.out.cell' (i := 1) (v := .bool r) rfl
  have y2 := HB2.out.cell' (i := 2) (v := .bool pw) rfl
  have y3 := HB2.out.cell' (i := 3) (v := .bool x) rfl
  have y4 := HB2.out.cell' (i := 4) (v := .bool u) rfl
  have y5 := HB2.out.cell' (i := 5) (v := .bool g) rfl
  have y6 := HB2.out.cell' (i := 6) (v := .bool a) rfl
  have y7 := HB2.out.cell' (i := 7) (v := .bool d) rfl
  have y8 := HB2.out.cell' (i := 8) (v := .int .i64 rsw) rfl
  have y9 := HB2.out.cell' (i := 9) (v := .int .u64 ppn) rfl
  have yl := HB2.out.lt
  have q10 := HL2.out.cell' (i := 10) (v := .int .i64 0) rfl
  have ql := HL2.out.lt
  go_wp2_with fail
  with_reducible refine (HMay.out _).mono ?_
  rintro e w4 ⟨rfl, C4⟩
  have HC4 := Lib.hid (HC2.out.step C4)
  have HB4 := Lib.hid (C4.blk0 HB2.out)
  have HL4 := Lib.hid (C4.blk0 HL2.out)
  have f0 := (H.out.chg0 HC4.out).tab.cell' (i := 0) (v := .pointer (some ⟨mb, 0, none⟩)) rfl
  have fl := (H.out.chg0 HC4.out).tab.lt
  have q11 := HL4.out.cell' (i := 11) (v := .int .u64 pos) rfl
  clear C4 y0 y1 y2 y3 y4 y5 y6 y7 y8 y9 yl q10 ql
  have y0 := HB4.out.cell' (i := 0) (v := .bool v) rfl
  have y1 := HB4.out.cell' (i := 1) (v := .bool r) rfl
  have y2 := HB4.out.cell' (i := 2) (v := .bool pw) rfl
  have y3 := HB4.out.cell' (i := 3) (v := .bool x) rfl
  have y4 := HB4.out.cell' (i := 4) (v := .bool u) rfl
  have y5 := HB4.out.cell' (i := 5) (v := .bool g) rfl
  have y6 := HB4.out.cell' (i := 6) (v := .bool a) rfl
  have y7 := HB4.out.cell' (i := 7) (v := .bool d) rfl
  have y8 := HB4.out.cell' (i := 8) (v := .int .i64 rsw) rfl
  have y9 := HB4.out.cell' (i := 9) (v := .int .u64 ppn) rfl
  have yl := HB4.out.lt
  have ql := HL4.out.lt
  go_upto_region 6 with fail
  refine wp_region_take 8 [0, 1, 2, 3, 4, 5, 6] [7] (fun w' => w'.cell? ⟨tb, 0, none⟩ = some (.pointer (some ⟨mb, 0, none⟩)) ∧ w'.cell? ⟨lb, 11, none⟩ = some (.int .u64 pos) ∧ w'.cell? ⟨w.heap.size, 0, none⟩ = some (.bool v) ∧ w'.cell? ⟨w.heap.size, 1, none⟩ = some (.bool r) ∧ w'.cell? ⟨w.heap.size, 2, none⟩ = some (.bool pw) ∧ w'.cell? ⟨w.heap.size, 3, none⟩ = some (.bool x) ∧ w'.cell? ⟨w.heap.size, 4, none⟩ = some (.bool u) ∧ w'.cell? ⟨w.heap.size, 5, none⟩ = some (.bool g) ∧ w'.cell? ⟨w.heap.size, 6, none⟩ = some (.bool a) ∧ w'.cell? ⟨w.heap.size, 7, none⟩ = some (.bool d) ∧ w'.cell? ⟨w.heap.size, 8, none⟩ = some (.int .i64 rsw) ∧ w'.cell? ⟨w.heap.size, 9, none⟩ = some (.int .u64 ppn)) (by kernel_rfl) (by kernel_rfl) (fun _ _ _ _ _ h => h) (⟨f0, q11, y0, y1, y2, y3, y4, y5, y6, y7, y8, y9⟩) ?_
  simp only [pickOps_nil, pickOps_cons, Option.getD_some, List.getElem?_toArray, List.getElem?_cons_zero, List.getElem?_cons_succ, List.cons_append, List.nil_append, List.drop_succ_cons, List.drop_zero]
  repeat
    refine wpTake_cons' rfl ?_
    apply Exists.intro
    refine ⟨fun wS hS => ?_, ?_⟩
    · try dsimp only at hS
      obtain ⟨g0, g1, z0, z1, z2, z3, z4, z5, z6, z7, z8, z9⟩ := hS
      go_simp
      try rfl
    simp only [Act.put, List.setIfInBounds_toArray, List.set_cons_zero, List.set_cons_succ]
  refine wpTake_nil ?_
  refine wpForce_cons rfl (fun K hK => ?_)
  go_simp
  refine (HPut.out _).mono ?_
  rintro e wa ⟨rfl, Ca'⟩
  have Ca := Ca'.undrew
  have HCa := Lib.hid (HC4.out.step Ca)
  have HBa := Lib.hid (Ca.blk0 HB4.out)
  have f0 := (H.out.chg0 HCa.out).tab.cell' (i := 0) (v := .pointer (some ⟨mb, 0, none⟩)) rfl
  have q11 := (Ca.blk0 HL4.out).cell' (i := 11) (v := .int .u64 pos) rfl
  have y0 := HBa.out.cell' (i := 0) (v := .bool v) rfl
  have y1 := HBa.out.cell' (i := 1) (v := .bool r) rfl
  have y2 := HBa.out.cell' (i := 2) (v := .bool pw) rfl
  have y3 := HBa.out.cell' (i := 3) (v := .bool x) rfl
  have y4 := HBa.out.cell' (i := 4) (v := .bool u) rfl
  have y5 := HBa.out.cell' (i := 5) (v := .bool g) rfl
  have y6 := HBa.out.cell' (i := 6) (v := .bool a) rfl
  have y7 := HBa.out.cell' (i := 7) (v := .bool d) rfl
  have y8 := HBa.out.cell' (i := 8) (v := .int .i64 rsw) rfl
  have y9 := HBa.out.cell' (i := 9) (v := .int .u64 ppn) rfl
  have yl := HBa.out.lt
  refine hK _ _ ⟨f0, q11, y0, y1, y2, y3, y4, y5, y6, y7, y8, y9⟩ ?_
  refine wpForce_nil ?_
  clear hK K Ca Ca'
  go_wp2_with fail
  with_reducible refine (HSt.out _ (H.out.chg0 HCa.out)).mono ?_
  rintro e wb ⟨rfl, Mb, Cb⟩
  have HX : Hid (TabAt wb (Grow SM w) mb fr sb mp tb root { t with b := putW t.b pos 8 W } ∧ Chg (TS SM sb mp tb) w wb) := Lib.hid ⟨((H.out.chg0 HCa.out).store Mb Cb).grow3 H.out HCa.out.size, (HCa.out.mono (S' := TS SM sb mp tb) fun _ _ e => e.elim).trans Cb fun k hk e => .inl e⟩
  clear Mb Cb
  go_wp2_with fail
  go_ret
  exact ⟨rfl, HX.out⟩
end Go.Proofs.YtdjaeoeejcmhdaaGreatDoor
set_option linter.unusedVariables false
set_option linter.unusedSimpArgs false
namespace Go.RR
open Go.RowKit
section
variable {P : Program} {w w' : World} {S S' : Nat → Prop} {E : TypeId} {size : Nat} {v : Value} {n : Nat} {us : List Value}
/-- Nil, or from the head of its block on. -/
def Head (v : Value) : Prop := v = .slice none 0 0 ∨ ∃ g n cap, v = .slice (some ⟨g, 0, none⟩) n cap
/-- append: an owned slice (nil, from the head of its block or not), and whatever may be read behind it. -/
theorem run_app0 (t ty : TypeId) (i : TypeInfo) (z : Value) (bytes : Nat) (ht : P.underlying t = some (.slice E)) (hi : P.info? E = some i) (hz : i.zero = some z)
    (hsize : i.size = size) (hby : i.bytes = bytes) (hzs : z.cells.size = size) (hown : Own w S E size v n us) (x : Value) (m : Nat) (news : List Value) (hx : Sl w S' size x m news) (h1 : ∀ u ∈ news, u.oneCell' = true)
    (h63 : n + m ≤ maxLen) (hbytes : (n + m) * bytes ≤ 140737488355328) :
    ∃ v' w', (Builtin.append_ #[t, t] ty #[v, x]).run P w = .ok v' w' ∧ Own w' (fun k => v.ownBlock = some k ∨ k = w.heap.size) E size v' (n + m) (us ++ news) ∧ w.grownBy w' v.ownBlock ∧ (0 < m → v' ≠ .slice none 0 0) ∧ (Head v → Head v') := by
  subst hsize hby
  have hlen : (us ++ news).length = (n + m) * i.size := by rw [List.length_append, hown.1, hx.1, Nat.add_mul]
  have h63' : ((n + m : Nat) : Int) ≤ 9223372036854775807 := by simp only [maxLen] at h63; omega
  have hsrc : Src P i.size t x m news w := by
    obtain ⟨hx1, p, cap, rfl, _, hx2⟩ := hx
    by_cases hm0 : m = 0
    · subst hm0
      obtain rfl : news = [] := List.eq_nil_of_length_eq_zero (by simpa using hx1)
      cases p with
      | none => exact Src.ofNil w ht cap
      | some a => exact Src.ofSlice w ht a 0 cap [] (by simp) (fun j u hu => by simp at hu) h1
    · obtain ⟨g, off, rfl, _, _, hc⟩ := hx2 (by omega)
      exact Src.ofSlice w ht ⟨g, off, none⟩ m cap news hx1 (fun j u hu => by rw [Addr.add_lit]; exact hc j u hu) h1
  have grow : ∀ (base : Option Addr) (cap : Nat), (Builtin.firstCells i.size n (.slice base n cap)).run P w.drew = .ok us.toArray w.drew → cap < n + m →
      ∃ v' w', (Builtin.append_ #[t, t] ty #[.slice base n cap, x]).run P w = .ok v' w' ∧ Own w' (fun k => (Value.slice base n cap).ownBlock = some k ∨ k = w.heap.size) E i.size v' (n + m) (us ++ news) ∧ w.grownBy w' (Value.slice base n cap).ownBlock ∧ (0 < m → v' ≠ .slice none 0 0) ∧ (Head (.slice base n cap) → Head v') := by
    intro base cap hold hg
    have hr := run_append_grow_src (P := P) w t t ty E i z ht hi hz base n cap us hold x m news hsrc hg h63' (growslice_fits hg hbytes)
    have hge := grownCap_ge w (n + m) cap E
    refine ⟨_, _, hr, ⟨hlen, .inr ⟨w.heap.size, 0, _, _, rfl, .inr rfl, heap_alloc_new w.drew _, hge, grownCap_le_maxLen w (n + m) cap E h63, ?_, fun j u hu => ?_⟩⟩, ⟨rfl, rfl, rfl, by simp, fun k hk _ => Below.heap_alloc w.drew _ k hk⟩, by simp, fun _ => .inr ⟨_, _, _, rfl⟩⟩
    · simp only [Array.size_append, List.size_toArray, hlen, size_zeroCells, hzs, ← Nat.add_mul, Nat.zero_add]
      exact Nat.le_of_eq (congrArg (· * i.size) (by omega))
    · rw [Nat.zero_add, Array.getElem?_append_left (by have := (List.getElem?_eq_some_iff.1 hu).1; simpa using this)]
      simpa using hu
  rcases hown.2 with ⟨rfl, rfl⟩ | ⟨g, off, cap, cur, rfl, hSg, hb, hn, hm, hf, hc⟩
  · obtain rfl : us = [] := List.eq_nil_of_length_eq_zero (by simpa using hown.1)
    by_cases h0 : m = 0
    · subst h0
      obtain rfl : news = [] := List.eq_nil_of_length_eq_zero (by simpa using hx.1)
      refine ⟨.slice none 0 0, w, ?_, Own.nil _ _ _ _, ⟨rfl, rfl, rfl, Nat.le_refl _, fun _ _ _ => rfl⟩, by simp, fun h => h⟩
      obtain ⟨_, p, cap, rfl, _⟩ := hx
      cases p <;> simp [Builtin.append_, run_underlying ht, sizeOf, typeInfo, hi, Builtin.lenOf, Builtin.firstCells, loadCells, loadCellsFrom]
    · exact grow none 0 (by simp [Builtin.firstCells]) (by omega)
  · by_cases hroom : n + m ≤ cap
    · have hfit : off + n * i.size + news.length ≤ cur.size := by
        have := Nat.mul_le_mul_right i.size hroom
        rw [Nat.add_mul] at this
        rw [hx.1]; omega
      have hr := run_append_room_src (P := P) w t t ty E i ht hi g off n cap x m news hsrc hroom
        (fun j hj => by rw [hb.cell]; rw [Array.getElem?_eq_getElem (by omega)]; rfl) (fun j hj => hb.frozen _)
      obtain ⟨c', k1, k2, k3, k4, k5, k6, k7, k8, k9⟩ := setCells_blk news (off + n * i.size) w cur hb hfit
      refine ⟨_, _, hr, ⟨hlen, .inr ⟨g, off, cap, c', rfl, .inl rfl, k1, hroom, hm, by omega, fun j u hu => ?_⟩⟩, ⟨k7, k8, k9, by omega, fun k _ hk => k5 k (fun e => hk (by simp [Value.ownBlock, e]))⟩, by simp, fun h => by
        rcases h with h | ⟨g', n', c', h⟩
        · cases h
        · cases h; exact .inr ⟨_, _, _, rfl⟩⟩
      rw [List.getElem?_append] at hu
      split at hu
      · rename_i hj
        rw [k4 _ (.inl (by rw [← hown.1]; omega))]
        exact hc j u hu
      · have := k3 _ u hu
        rwa [show off + n * i.size + (j - us.length) = off + j by rw [← hown.1]; omega] at this
    · refine grow (some ⟨g, off, none⟩) cap (run_firstCells_some w.drew i.size n ⟨g, off, none⟩ n cap us hown.1 (fun j u hu => ?_)) (by omega)
      rw [Addr.add_lit]; exact hb.cell' (hc j u hu)


theorem opwp_app0 {o : Oper} {a : Act} {K : Act → World → Prop} {Q : Exit → Act → World → Prop} (s x : Operand) (t : TypeId)
    (ho : o.op = .call { callee := .builtin .append, args := #[s, x], argTypes := #[t, t] })
    (i : TypeInfo) (z : Value) (bytes : Nat) (ht : P.underlying t = some (.slice E)) (hi : P.info? E = some i) (hz : i.zero = some z)
    (hsize : i.size = size) (hby : i.bytes = bytes) (hzs : z.cells.size = size) (hs : a.eval s = v) (hown : Own w S E size v n us) (xv : Value) (m : Nat) (news : List Value) (hxv : a.eval x = xv) (hx : Sl w S' size xv m news) (h1 : ∀ u ∈ news, u.oneCell' = true)
    (h63 : n + m ≤ maxLen) (hbytes : (n + m) * bytes ≤ 140737488355328)
    (h : ∀ v' w', Own w' (fun k => v.ownBlock = some k ∨ k = w.heap.size) E size v' (n + m) (us ++ news) → w.grownBy w' v.ownBlock → (0 < m → v' ≠ .slice none 0 0) → (Head v → Head v') → K (a.put o.dst v') w') : o.wp P a w K Q := by
  obtain ⟨v', w', hr, h2, h3, h4, h5⟩ := run_app0 (P := P) t o.type i z bytes ht hi hz hsize hby hzs hown xv m news hx h1 h63 hbytes
  unfold Oper.wp execOp
  simp only [ho, resolve, invoke, builtin, Sem.run_bind, Sem.run_pure, Result.andThen_ok, List.map_toArray, List.map_cons, List.map_nil, hs, hxv, hr]
  exact h v' w' h2 h3 h4 h5
end
end Go.RR
