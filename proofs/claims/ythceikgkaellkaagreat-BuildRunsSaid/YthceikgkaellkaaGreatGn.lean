/- Tables: a page's entry is changed. No condition. -/
import Derived.Test.YthceikgkaellkaaGreatGm
set_option linter.unusedVariables false
set_option linter.unusedSimpArgs false
namespace Go.Proofs.YthceikgkaellkaaGreat
open Go.RowKit Go.RR
set_option maxHeartbeats 2000000 in
set_option maxRecDepth 100000 in
theorem change_any {SM : Nat → Prop} {w : World} {mb fr sb mp tb root : Nat} {t : Tst} (h : TabAt w SM mb fr sb mp tb root t) (va : Nat) (p P : Pte) (pos : Nat) (hv : va < 18446744073709551616) (hr : root < fr) (hp : p.Ok) (h8 : rightP8 p = true) (hlf : leafB p = true)
    (hF : findF t.b fr root va = (⟨P, 0, pos⟩, 0)) (hp1 : pos / 4096 < fr) (hp2 : pos % 8 = 0) :
    Calls Tryz.prog 106 #[.pointer (some ⟨tb, 0, none⟩), .int .u64 va, .agg #[.bool p.v, .bool p.r, .bool p.w, .bool p.x, .bool p.u, .bool p.g, .bool p.a, .bool p.d, .int .i64 p.rsw, .int .u64 p.ppn]] w
      (RetW (.int .i64 0) fun w' => TabAt w' (Grow SM w) mb fr sb mp tb root { t with b := putW t.b pos 8 (pteW p) } ∧ Chg (TS SM sb mp tb) w w') := by
  have H := Lib.hid h
  have HFd := Lib.hid fun w' (c : Chg NoB w w') => tabFind_any (h.chg0 c) va hv hr
  rw [hF] at HFd
  simp only [Leaf.out] at HFd
  have HMay := Lib.hid fun w' => may_any p hp h8 hlf w'
  have HPut := Lib.hid fun w' => ptePut_any p hp w'
  have hW := pteW_lt p
  obtain ⟨W, hWW⟩ : ∃ W, pteW p = W := ⟨_, rfl⟩
  rw [hWW] at HPut hW ⊢
  have HSt := Lib.hid fun w' (T : TabAt w' SM mb fr sb mp tb root t) => store8 T.mem pos W hp1 hp2 h.fr (by omega)
  clear h hF hv hr hp h8 hlf hp1 hp2 hWW
  obtain ⟨v, r, pw, x, u, g, a, d, rsw, ppn⟩ := p
  obtain ⟨lv, lr, lw, lx, lu, lg, la, ld, lrs, lpp⟩ := P
  have HCZ := Lib.hid ((Chg.refl NoB w).alloc (.cells #[.bool v, .bool r, .bool pw, .bool x, .bool u, .bool g, .bool a, .bool d, .int .i64 rsw, .int .u64 ppn] 185))
  have HBZ := Lib.hid (Blk.new w #[.bool v, .bool r, .bool pw, .bool x, .bool u, .bool g, .bool a, .bool d, .int .i64 rsw, .int .u64 ppn] 185)
  go_enter Tryz.func106, Tryz.ntmps106
  go_upto_region 1 with fail
  generalize w.alloc (.cells #[.bool v, .bool r, .bool pw, .bool x, .bool u, .bool g, .bool a, .bool d, .int .i64 rsw, .int .u64 ppn] 185) = w1 at *
  go_wp2_with fail
  with_reducible refine (HFd.out _ HCZ.out).mono ?_
  rintro e w2 ⟨rfl, C2⟩
  have HC2 := Lib.hid ((HCZ.out.step C2).alloc (.cells #[.bool lv, .bool lr, .bool lw, .bool lx, .bool lu, .bool lg, .bool la, .bool ld, .int .i64 lrs, .int .u64 lpp, .int .i64 0, .int .u64 pos] 243))
  have HB2 := Lib.hid ((C2.blk0 HBZ.out).alloc (.cells #[.bool lv, .bool lr, .bool lw, .bool lx, .bool lu, .bool lg, .bool la, .bool ld, .int .i64 lrs, .int .u64 lpp, .int .i64 0, .int .u64 pos] 243))
  have HL2 := Lib.hid (Blk.new w2 #[.bool lv, .bool lr, .bool lw, .bool lx, .bool lu, .bool lg, .bool la, .bool ld, .int .i64 lrs, .int .u64 lpp, .int .i64 0, .int .u64 pos] 243)
  clear C2
  go_upto_region 2 with fail
  generalize w2.alloc (.cells #[.bool lv, .bool lr, .bool lw, .bool lx, .bool lu, .bool lg, .bool la, .bool ld, .int .i64 lrs, .int .u64 lpp, .int .i64 0, .int .u64 pos] 243) = w3 at *
  obtain ⟨lb, hlb⟩ : ∃ lb, w2.heap.size = lb := ⟨_, rfl⟩
  rw [hlb] at HL2 ⊢
  clear hlb
  have y0 := HB2.out.cell' (i := 0) (v := .bool v) rfl
  have y1 := HB2.out.cell' (i := 1) (v := .bool r) rfl
  have y2 := HB2.out.cell' (i := 2) (v := .bool pw) rfl
  have y3 := HB2.out.cell' (i := 3) (v := .bool x) rfl
  have y4 := HB2.out.cell' (i := 4) (v := .bool u) rfl
  have y5 := HB2.out.cell' (i := 5) (v := .bool g) rfl
  have y6 := HB2.out.cell' (i := 6) (v := .bool a) rfl
  have y7 := HB2.out.cell' (i := 7) (v := .bool d) rfl
  have y8 := HB2.out.cell' (i := 8) (v := .int .i64 rsw) rfl
  have y9 := HB2.out.cell' (i := 9) (v := .int .u64 ppn) rfl
  have yl := HB2.out.lt
  have q10 := HL2.out.cell' (i := 10) (v := .int .i64 0) rfl
  have ql := HL2.out.lt
  go_wp2_with fail
  with_reducible refine (HMay.out _).mono ?_
  rintro e w4 ⟨rfl, C4⟩
  have HC4 := Lib.hid (HC2.out.step C4)
  have HB4 := Lib.hid (C4.blk0 HB2.out)
  have HL4 := Lib.hid (C4.blk0 HL2.out)
  have f0 := (H.out.chg0 HC4.out).tab.cell' (i := 0) (v := .pointer (some ⟨mb, 0, none⟩)) rfl
  have fl := (H.out.chg0 HC4.out).tab.lt
  have q11 := HL4.out.cell' (i := 11) (v := .int .u64 pos) rfl
  clear C4 y0 y1 y2 y3 y4 y5 y6 y7 y8 y9 yl q10 ql
  have y0 := HB4.out.cell' (i := 0) (v := .bool v) rfl
  have y1 := HB4.out.cell' (i := 1) (v := .bool r) rfl
  have y2 := HB4.out.cell' (i := 2) (v := .bool pw) rfl
  have y3 := HB4.out.cell' (i := 3) (v := .bool x) rfl
  have y4 := HB4.out.cell' (i := 4) (v := .bool u) rfl
  have y5 := HB4.out.cell' (i := 5) (v := .bool g) rfl
  have y6 := HB4.out.cell' (i := 6) (v := .bool a) rfl
  have y7 := HB4.out.cell' (i := 7) (v := .bool d) rfl
  have y8 := HB4.out.cell' (i := 8) (v := .int .i64 rsw) rfl
  have y9 := HB4.out.cell' (i := 9) (v := .int .u64 ppn) rfl
  have yl := HB4.out.lt
  have ql := HL4.out.lt
  go_upto_region 6 with fail
  refine wp_region_take 8 [0, 1, 2, 3, 4, 5, 6] [7] (fun w' => w'.cell? ⟨tb, 0, none⟩ = some (.pointer (some ⟨mb, 0, none⟩)) ∧ w'.cell? ⟨lb, 11, none⟩ = some (.int .u64 pos) ∧ w'.cell? ⟨w.heap.size, 0, none⟩ = some (.bool v) ∧ w'.cell? ⟨w.heap.size, 1, none⟩ = some (.bool r) ∧ w'.cell? ⟨w.heap.size, 2, none⟩ = some (.bool pw) ∧ w'.cell? ⟨w.heap.size, 3, none⟩ = some (.bool x) ∧ w'.cell? ⟨w.heap.size, 4, none⟩ = some (.bool u) ∧ w'.cell? ⟨w.heap.size, 5, none⟩ = some (.bool g) ∧ w'.cell? ⟨w.heap.size, 6, none⟩ = some (.bool a) ∧ w'.cell? ⟨w.heap.size, 7, none⟩ = some (.bool d) ∧ w'.cell? ⟨w.heap.size, 8, none⟩ = some (.int .i64 rsw) ∧ w'.cell? ⟨w.heap.size, 9, none⟩ = some (.int .u64 ppn)) (by kernel_rfl) (by kernel_rfl) (fun _ _ _ _ _ h => h) (⟨f0, q11, y0, y1, y2, y3, y4, y5, y6, y7, y8, y9⟩) ?_
  simp only [pickOps_nil, pickOps_cons, Option.getD_some, List.getElem?_toArray, List.getElem?_cons_zero, List.getElem?_cons_succ, List.cons_append, List.nil_append, List.drop_succ_cons, List.drop_zero]
  repeat
    refine wpTake_cons' rfl ?_
    apply Exists.intro
    refine ⟨fun wS hS => ?_, ?_⟩
    · try dsimp only at hS
      obtain ⟨g0, g1, z0, z1, z2, z3, z4, z5, z6, z7, z8, z9⟩ := hS
      go_simp
      try rfl
    simp only [Act.put, List.setIfInBounds_toArray, List.set_cons_zero, List.set_cons_succ]
  refine wpTake_nil ?_
  refine wpForce_cons rfl (fun K hK => ?_)
  go_simp
  refine (HPut.out _).mono ?_
  rintro e wa ⟨rfl, Ca'⟩
  have Ca := Ca'.undrew
  have HCa := Lib.hid (HC4.out.step Ca)
  have HBa := Lib.hid (Ca.blk0 HB4.out)
  have f0 := (H.out.chg0 HCa.out).tab.cell' (i := 0) (v := .pointer (some ⟨mb, 0, none⟩)) rfl
  have q11 := (Ca.blk0 HL4.out).cell' (i := 11) (v := .int .u64 pos) rfl
  have y0 := HBa.out.cell' (i := 0) (v := .bool v) rfl
  have y1 := HBa.out.cell' (i := 1) (v := .bool r) rfl
  have y2 := HBa.out.cell' (i := 2) (v := .bool pw) rfl
  have y3 := HBa.out.cell' (i := 3) (v := .bool x) rfl
  have y4 := HBa.out.cell' (i := 4) (v := .bool u) rfl
  have y5 := HBa.out.cell' (i := 5) (v := .bool g) rfl
  have y6 := HBa.out.cell' (i := 6) (v := .bool a) rfl
  have y7 := HBa.out.cell' (i := 7) (v := .bool d) rfl
  have y8 := HBa.out.cell' (i := 8) (v := .int .i64 rsw) rfl
  have y9 := HBa.out.cell' (i := 9) (v := .int .u64 ppn) rfl
  have yl := HBa.out.lt
  refine hK _ _ ⟨f0, q11, y0, y1, y2, y3, y4, y5, y6, y7, y8, y9⟩ ?_
  refine wpForce_nil ?_
  clear hK K Ca Ca'
  go_wp2_with fail
  with_reducible refine (HSt.out _ (H.out.chg0 HCa.out)).mono ?_
  rintro e wb ⟨rfl, Mb, Cb⟩
  have HX : Hid (TabAt wb (Grow SM w) mb fr sb mp tb root { t with b := putW t.b pos 8 W } ∧ Chg (TS SM sb mp tb) w wb) := Lib.hid ⟨((H.out.chg0 HCa.out).store Mb Cb).grow3 H.out HCa.out.size, (HCa.out.mono (S' := TS SM sb mp tb) fun _ _ e => e.elim).trans Cb fun k hk e => .inl e⟩
  clear Mb Cb
  go_wp2_with fail
  go_ret
  exact ⟨rfl, HX.out⟩
end Go.Proofs.YthceikgkaellkaaGreat
