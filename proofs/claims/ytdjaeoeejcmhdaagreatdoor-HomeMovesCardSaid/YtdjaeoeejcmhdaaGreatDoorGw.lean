/- Tables: a page is unmapped. No condition. Spaces: what is rebuilt behind a change; the frame of a page. No condition. -/
import Derived.Test.YtdjaeoeejcmhdaaGreatDoorGn
import Derived.Test.YtdjaeoeejcmhdaaGreatDoorGf
import Derived.Test.YtdjaeoeejcmhdaaGreatDoorGa
import Derived.Test.YtdjaeoeejcmhdaaGreatDoorGv
set_option linter.unusedVariables false
set_option linter.unusedSimpArgs false
namespace Go.Proofs.YtdjaeoeejcmhdaaGreatDoor
open Go.RowKit Go.RR
theorem chain10 (w : World) (g : Nat) (v0 v1 v2 v3 v4 v5 v6 v7 v8 v9 : Value) : ((((((((((w.setCell ⟨g, 0, none⟩ v0).setCell ⟨g, 1, none⟩ v1).setCell ⟨g, 2, none⟩ v2).setCell ⟨g, 3, none⟩ v3).setCell ⟨g, 4, none⟩ v4).setCell ⟨g, 5, none⟩ v5).setCell ⟨g, 6, none⟩ v6).setCell ⟨g, 7, none⟩ v7).setCell ⟨g, 8, none⟩ v8).setCell ⟨g, 9, none⟩ v9) = w.setCells g 0 [v0, v1, v2, v3, v4, v5, v6, v7, v8, v9] := rfl
theorem store_chg' (w : World) (g : Nat) (vs : List Value) : Chg (· = g) w (w.setCells g 0 vs) := by
  have key : ∀ (vs : List Value) (o : Nat) (w : World), Chg (· = g) w (w.setCells g o vs) := by
    intro vs
    induction vs with
    | nil => intro o w; exact Chg.refl _ _
    | cons x vs ih => intro o w; exact ((Chg.refl (· = g) w).setCell (.inl rfl) x).step (ih (o + 1) _)
  exact key vs 0 w
set_option maxHeartbeats 2000000 in
set_option maxRecDepth 100000 in
theorem unmap_any {SM : Nat → Prop} {w : World} {mb fr sb mp tb root : Nat} {t : Tst} (h : TabAt w SM mb fr sb mp tb root t) (va : Nat) (P : Pte) (pos : Nat) (hv : va < 18446744073709551616) (hr : root < fr)
    (hF : findF t.b fr root va = (⟨P, 0, pos⟩, 0)) (hp1 : pos / 4096 < fr) (hp2 : pos % 8 = 0) :
    Calls Tryz.prog 130 #[.pointer (some ⟨tb, 0, none⟩), .int .u64 va] w
      (RetV fun v w' => TabAt w' (Grow SM w) mb fr sb mp tb root { t with b := putW t.b pos 8 0 } ∧ Chg (TS SM sb mp tb) w w') := by
  have H := Lib.hid h
  have HFd := Lib.hid fun w' (c : Chg NoB w w') => tabFind_any (h.chg0 c) va hv hr
  rw [hF] at HFd
  simp only [Leaf.out] at HFd
  have HO := Lib.hid h.old
  have HSt := Lib.hid fun w' (T : TabAt w' (fun k => SM k ∧ k < w.heap.size) mb fr sb mp tb root t) => store8 T.mem pos 0 hp1 hp2 h.fr (by omega)
  have HC := Lib.hid ((Chg.refl NoB w).alloc (.cells #[.bool false, .bool false, .bool false, .bool false, .bool false, .bool false, .bool false, .bool false, .int .i64 0, .int .u64 0] 135))
  have HR := Lib.hid (Blk.new w #[.bool false, .bool false, .bool false, .bool false, .bool false, .bool false, .bool false, .bool false, .int .i64 0, .int .u64 0] 135)
  have HNm : Hid (sb < w.heap.size ∧ mp < w.heap.size ∧ tb < w.heap.size) := Lib.hid ⟨h.stk.blk.lt, h.stk.map.lt, h.tab.lt⟩
  clear h hF hv hr hp1 hp2
  obtain ⟨lv, lr, lw, lx, lu, lg, la, ld, lrs, lpp⟩ := P
  go_enter Tryz.func130, Tryz.ntmps130
  go_upto_region 1 with fail
  generalize w.alloc (.cells #[.bool false, .bool false, .bool false, .bool false, .bool false, .bool false, .bool false, .bool false, .int .i64 0, .int .u64 0] 135) = w0 at *
  go_wp2_with fail
  refine (HFd.out _ HC.out).mono ?_
  rintro e w1 ⟨rfl, C1⟩
  have HC1 := Lib.hid (HC.out.step C1)
  have HR1 := Lib.hid ((C1.blk0 HR.out).alloc (.cells #[.bool lv, .bool lr, .bool lw, .bool lx, .bool lu, .bool lg, .bool la, .bool ld, .int .i64 lrs, .int .u64 lpp, .int .i64 0, .int .u64 pos] 137))
  have HB2 := Lib.hid (Blk.new w1 #[.bool lv, .bool lr, .bool lw, .bool lx, .bool lu, .bool lg, .bool la, .bool ld, .int .i64 lrs, .int .u64 lpp, .int .i64 0, .int .u64 pos] 137)
  have HC2 := Lib.hid (HC1.out.alloc (.cells #[.bool lv, .bool lr, .bool lw, .bool lx, .bool lu, .bool lg, .bool la, .bool ld, .int .i64 lrs, .int .u64 lpp, .int .i64 0, .int .u64 pos] 137))
  have HZ : Hid (w.heap.size < w1.heap.size) := Lib.hid (C1.blk0 HR.out).lt
  clear C1
  go_upto_region 4 with fail
  generalize w1.alloc (.cells #[.bool lv, .bool lr, .bool lw, .bool lx, .bool lu, .bool lg, .bool la, .bool ld, .int .i64 lrs, .int .u64 lpp, .int .i64 0, .int .u64 pos] 137) = w2 at *
  obtain ⟨lb, hlb⟩ : ∃ lb, w1.heap.size = lb := ⟨_, rfl⟩
  rw [hlb] at HB2 HZ ⊢
  clear hlb
  have HT2 := Lib.hid (HO.out.chg0 HC2.out)
  have cc := Chg.refl (fun k => SM k ∧ k < w.heap.size) w2
  have gl : ∀ w', Chg (fun k => SM k ∧ k < w.heap.size) w2 w' → ∀ i, w'.cell? ⟨lb, i, none⟩ = (#[.bool lv, .bool lr, .bool lw, .bool lx, .bool lu, .bool lg, .bool la, .bool ld, .int .i64 lrs, .int .u64 lpp, .int .i64 0, .int .u64 pos])[i]? := fun w' c => (c.blk HB2.out (fun e => by have := HZ.out; omega)).cell
  have gll : ∀ w', Chg (fun k => SM k ∧ k < w.heap.size) w2 w' → lb < w'.heap.size := fun w' c => (c.blk HB2.out (fun e => by have := HZ.out; omega)).lt
  have gt : ∀ w', Chg (fun k => SM k ∧ k < w.heap.size) w2 w' → w'.cell? ⟨tb, 0, none⟩ = some (.pointer (some ⟨mb, 0, none⟩)) := fun w' c => (c.blk HT2.out.tab HT2.out.n3).cell' rfl
  have gtl : ∀ w', Chg (fun k => SM k ∧ k < w.heap.size) w2 w' → tb < w'.heap.size := fun w' c => (c.blk HT2.out.tab HT2.out.n3).lt
  refine wp_region_mix 9 [(true, 0), (true, 1), (true, 2), (true, 3), (true, 4), (true, 5), (true, 6), (true, 7), (false, 8)] (fun w' => Chg (fun k => SM k ∧ k < w.heap.size) w2 w') (by kernel_rfl) (by kernel_rfl) (fun _ _ _ _ _ h => h) (cc.drew) ?_
  simp only [pickMix_nil, pickMix_cons, Option.getD_some, List.getElem?_toArray, List.getElem?_cons_zero, List.getElem?_cons_succ, List.cons_append, List.nil_append, List.drop_succ_cons, List.drop_zero]
  iterate 8
   refine wpMix_take rfl ?_
   apply Exists.intro
   refine ⟨fun wS hS => ?_, ?_⟩
   · try dsimp only at hS
     have cS := hS
     go_simp
     try rfl
   simp only [Act.put, List.setIfInBounds_toArray, List.set_cons_zero, List.set_cons_succ]
  refine wpMix_force rfl (fun K hK => ?_)
  go_simp
  refine (HSt.out _ (HT2.out.chg0 (Chg.refl NoB w2).drew)).mono ?_
  rintro e w3 ⟨rfl, hm3, hc3⟩
  have c3 := hc3.undrew
  have hm3' : MemAt w3 (Grow (fun k => SM k ∧ k < w.heap.size) w2) mb (putW t.b pos 8 0) fr := hm3
  refine hK _ _ c3 ?_
  clear hK K hm3 hc3
  refine wpMix_nil ?_
  have HT3 := Lib.hid (HT2.out.store hm3' c3)
  have HC3 := Lib.hid c3
  have HR3 := Lib.hid (c3.blk HR1.out (fun e => Nat.lt_irrefl _ e.2))
  have r3 := HR3.out.cell
  have rl := HR3.out.lt
  have rf := HR3.out.frozen
  clear gl gll gt gtl cc hm3' c3
  go_wp2_with fail
  exact bodyPost_ret (v := .tuple #[.agg #[.bool lv, .bool lr, .bool lw, .bool lx, .bool lu, .bool lg, .bool la, .bool ld, .int .i64 lrs, .int .u64 lpp], .int .i64 0]) (by simp [results, Tryz.results130, go_sem, r3, rl]) rfl ⟨_, rfl, by
    rw [chain10]
    have cR := store_chg' w3 w.heap.size [.bool lv, .bool lr, .bool lw, .bool lx, .bool lu, .bool lg, .bool la, .bool ld, .int .i64 lrs, .int .u64 lpp]
    have hz := HC2.out.size
    have hz0 := HZ.out
    have hn := HNm.out
    have hlb := HB2.out.lt
    refine ⟨?_, ?_⟩
    · refine (HT3.out.chg cR fun k hk e => ?_).wide H.out fun k hk => ?_
      · have e : k = w.heap.size := e
        rcases hk with hk | hk | hk | hk
        · rcases hk with hk | hk <;> omega
        all_goals omega
      · rcases hk with hk | hk
        · exact .inl hk.1
        · exact .inr (by omega)
    · refine ((HC2.out.mono (S' := TS SM sb mp tb) fun _ _ e => e.elim).trans HC3.out fun k _ e => .inl e.1).trans cR fun k hk e => ?_
      have e : k = w.heap.size := e
      omega⟩
end Go.Proofs.YtdjaeoeejcmhdaaGreatDoor
set_option linter.unusedVariables false
set_option linter.unusedSimpArgs false
namespace Go.Proofs.YtdjaeoeejcmhdaaGreatDoor
open Go.RowKit Go.RR
def Pl.grow (L : Pl) (w w' : World) : Pl := { L with SM := fun k => (L.SM k ∨ w.heap.size ≤ k) ∧ k < w'.heap.size }
theorem Pl.Apart.nes {L : Pl} {H : Nat} (h : L.Apart H) : (L.pb ≠ L.sb ∧ L.pb ≠ L.mp ∧ L.pb ≠ L.tb ∧ L.pb ≠ L.ub ∧ L.pb ≠ L.xb ∧ L.pb ≠ L.rb) ∧ (L.sb ≠ L.mp ∧ L.sb ≠ L.tb ∧ L.sb ≠ L.ub ∧ L.sb ≠ L.xb ∧ L.sb ≠ L.rb) ∧
    (L.mp ≠ L.tb ∧ L.mp ≠ L.ub ∧ L.mp ≠ L.xb ∧ L.mp ≠ L.rb) ∧ (L.tb ≠ L.ub ∧ L.tb ≠ L.xb ∧ L.tb ≠ L.rb) ∧ (L.ub ≠ L.xb ∧ L.ub ≠ L.rb) ∧ L.xb ≠ L.rb := by
  have := h.nd
  simp only [Pl.names, List.nodup_cons, List.mem_cons, List.not_mem_nil, or_false, not_or, List.nodup_nil, and_true, not_false_eq_true] at this
  exact this
theorem Pl.Apart.grow {L : Pl} {w w' : World} (h : L.Apart w.heap.size) (hs : w.heap.size ≤ w'.heap.size) : (L.grow w w').Apart w'.heap.size := by
  refine ⟨h.nd, fun b hb => ?_, fun k hk => ?_, h.bC, fun k hk => ?_⟩
  · obtain ⟨h1, h2, h3, h4⟩ := h.nm b hb
    exact ⟨by omega, fun e => e.1.elim h2 fun e => by omega, h3, h4⟩
  · rcases hk.1 with e | e
    · exact h.mB k e
    · exact ⟨fun e' => by have := h.bd k (.inr (.inl e')); omega, fun e' => by have := h.bd k (.inr (.inr e')); omega⟩
  · rcases hk with e | e
    · exact e.2
    · have := h.bd k (.inr e); omega
theorem SpAt.re {w w' : World} {L : Pl} {s : Spc} {S : Nat → Prop} (h : SpAt w L s) (c : Chg S w w') (hpb : ¬ S L.pb) (hub : ¬ S L.ub) (hsc : ∀ k, L.SC k → ¬ S k) {t' : Tst} (ht : TabAt w' (Grow L.SM w) L.mb s.u.fr L.sb L.mp L.tb s.root t') {tl : Tlb} (htl : TlbAt w' L.SB L.bb tl)
    {sh : List (Int × Nat)} (hsh : MapAt w' L.xb .i64 (shm sh)) {ri : List (Int × Int)} (hri : MapAt w' L.rb .i64 (rim ri)) :
    SpAt w' (L.grow w w') { s with u := { s.u with b := t'.b, tlb := tl }, stk := t'.s, used := t'.used, shared := sh, rights := ri } := by
  have ht' : TabAt w' (L.grow w w').SM L.mb s.u.fr L.sb L.mp L.tb s.root t' := ht.mono fun k hk => ⟨fun e => ⟨e, hk⟩, fun e => e.1⟩
  have ap := h.ap.grow c.size
  obtain ⟨hu1, hu2, hu3, hu4⟩ := ap.nm L.ub (by simp [Pl.names, Pl.grow])
  exact ⟨c.blk h.blk hpb, ht', ⟨c.blk h.mu.blk hub, ht'.mem, htl, h.mu.on, h.mu.asid, h.mu.mode, h.mu.root, h.mu.fr, hu2, hu3, fun k hk => (ap.mB k hk).1, fun k hk => ap.bd k (.inr (.inl hk))⟩, h.rt, h.rtl, h.code.chg c hsc, h.own.chg c hsc, hsh, hri, ap⟩
/-- Behind a change elsewhere. -/
theorem SpAt.chg {w w' : World} {L : Pl} {s : Spc} {S : Nat → Prop} (h : SpAt w L s) (c : Chg S w w') (hs : ∀ k, L.All k → ¬ S k) : SpAt w' L s := by
  have nm : ∀ b, b ∈ L.names → ¬ S b := fun b hb => hs b (.inl hb)
  have hM : ∀ k, L.SM k → ¬ S k := fun k hk => hs k (.inr (.inl hk))
  have hB : ∀ k, L.SB k → ¬ S k := fun k hk => hs k (.inr (.inr (.inl hk)))
  have hC : ∀ k, L.SC k → ¬ S k := fun k hk => hs k (.inr (.inr (.inr hk)))
  have hTS : ∀ k, TS L.SM L.sb L.mp L.tb k → ¬ S k := fun k hk => by
    rcases hk with hk | rfl | rfl | rfl
    · exact hM k hk
    all_goals exact nm _ (by simp [Pl.names])
  have hz := c.size
  have ap : L.Apart w'.heap.size := ⟨h.ap.nd, fun b hb => by obtain ⟨h1, h2⟩ := h.ap.nm b hb; exact ⟨by omega, h2⟩, h.ap.mB, h.ap.bC, fun k hk => by have := h.ap.bd k hk; omega⟩
  have ht := h.tab.chg c hTS
  exact ⟨c.blk h.blk (nm _ (by simp [Pl.names])), ht, ⟨c.blk h.mu.blk (nm _ (by simp [Pl.names])), ht.mem, h.mu.tlb.chg c hB, h.mu.on, h.mu.asid, h.mu.mode, h.mu.root, h.mu.fr, h.mu.n1, h.mu.n2, h.mu.n3, fun k hk => Nat.lt_of_lt_of_le (h.mu.n4 k hk) hz⟩, h.rt, h.rtl, h.code.chg c hC, h.own.chg c hC, h.sh.chg c (nm _ (by simp [Pl.names])), h.ri.chg c (nm _ (by simp [Pl.names])), ap⟩
theorem SpAt.chg0 {w w' : World} {L : Pl} {s : Spc} (h : SpAt w L s) (c : Chg NoB w w') : SpAt w' L s := h.chg c fun _ _ => id
set_option maxRecDepth 100000 in
theorem sThere_any {w : World} {L : Pl} {s : Spc} (h : SpAt w L s) (p : Int) (hp : 0 ≤ p) (hp2 : p < s.shape.shared) : Calls Tryz.prog 84 #[.pointer (some ⟨L.pb, 0, none⟩), .int .i64 p] w (RetW (.bool true) fun w' => w' = w) := by
  have f2 := h.blk.cell' (i := 2) (v := .int .i64 s.shape.shared) rfl
  have fl := h.blk.lt
  obtain ⟨z, hz⟩ : ∃ z, s.shape.shared = z := ⟨_, rfl⟩
  rw [hz] at f2 hp2
  have t1 : decide (0 ≤ p) = true := decide_eq_true hp
  have t2 : decide (p < z) = true := decide_eq_true hp2
  clear h hz hp hp2
  go_enter Tryz.func84, Tryz.ntmps84
  go_wp2_with fail
  go_ret
  exact ⟨rfl, rfl⟩
set_option maxRecDepth 100000 in
theorem sUnit_any {w : World} {L : Pl} {s : Spc} (h : SpAt w L s) : Calls Tryz.prog 8 #[.pointer (some ⟨L.pb, 0, none⟩)] w (RetW (.pointer (some ⟨L.ub, 0, none⟩)) fun w' => w' = w) := by
  have f7 := h.blk.cell' (i := 7) (v := .pointer (some ⟨L.ub, 0, none⟩)) rfl
  have fl := h.blk.lt
  clear h
  go_enter Tryz.func8, Tryz.ntmps8
  go_wp2_with fail
  go_ret
  exact ⟨rfl, rfl⟩
theorem shm_look (l : List (Int × Nat)) (p : Int) : mlook (shm l) p = ((l.find? fun x => x.1 == p).map (·.2)).map fun f : Nat => .int .i64 f := by
  unfold mlook shm
  rw [List.find?_map, Option.map_map, Option.map_map]
  rfl
theorem rim_look (l : List (Int × Int)) (p : Int) : mlook (rim l) p = ((l.find? fun x => x.1 == p).map (·.2)).map fun f : Int => .int .i64 f := by
  unfold mlook rim
  rw [List.find?_map, Option.map_map, Option.map_map]
  rfl
theorem shm_put (l : List (Int × Nat)) (p : Int) (f : Nat) : mput (shm l) p (.int .i64 f) = shm (putI l p f) := by
  induction l with
  | nil => rfl
  | cons x l ih =>
    show (if x.1 = p then _ else _) = shm (if x.1 = p then _ else _)
    by_cases h : x.1 = p
    · rw [if_pos h, if_pos h]; rfl
    · rw [if_neg h, if_neg h]
      show _ :: mput (shm l) p _ = _
      rw [ih]
      rfl
theorem rim_put (l : List (Int × Int)) (p f : Int) : mput (rim l) p (.int .i64 f) = rim (putI l p f) := by
  induction l with
  | nil => rfl
  | cons x l ih =>
    show (if x.1 = p then _ else _) = rim (if x.1 = p then _ else _)
    by_cases h : x.1 = p
    · rw [if_pos h, if_pos h]; rfl
    · rw [if_neg h, if_neg h]
      show _ :: mput (rim l) p _ = _
      rw [ih]
      rfl
theorem INTi : (Tryz.prog.info? 3).map (fun i => (i.zero, i.size, i.bytes)) = some (some (.int .i64 0), 1, 8) := by kernel_rfl
theorem RIGHTi : (Tryz.prog.info? 56).map (fun i => (i.zero, i.size, i.bytes)) = some (some (.int .i64 0), 1, 8) := by kernel_rfl
set_option maxRecDepth 100000 in
theorem frame_has {w : World} {L : Pl} {s : Spc} (h : SpAt w L s) (p : Int) (f : Nat) (hf : frameOf s p = some f) :
    Calls Tryz.prog 85 #[.pointer (some ⟨L.pb, 0, none⟩), .int .i64 p] w (RetW (.tuple #[.int .i64 f, .int .i64 0]) fun w' => w' = w) := by
  have f10 := h.blk.cell' (i := 10) (v := .map (some L.xb)) rfl
  have fl := h.blk.lt
  obtain ⟨i0, hi0, hz0, hz1, hz2⟩ := info_parts INTi
  have hl := run_look2 (P := Tryz.prog) Tryz.underlying81 Tryz.underlying3 hi0 hz0 h.sh p
  rw [shm_look, show (s.shared.find? fun x => x.1 == p).map (·.2) = some f from hf] at hl
  simp only [Option.map_some, Option.getD_some, Option.isSome_some] at hl
  clear h hf hi0 hz0 hz1 hz2
  go_enter Tryz.func85, Tryz.ntmps85
  go_wp2_with fail
  go_ret2
  exact ⟨rfl, rfl⟩
set_option maxHeartbeats 1000000 in
set_option maxRecDepth 100000 in
theorem frame_new {w : World} {L : Pl} {s : Spc} (h : SpAt w L s) (p : Int) (hf : frameOf s p = none) (hlt : s.stk.next < s.stk.fin) :
    Calls Tryz.prog 85 #[.pointer (some ⟨L.pb, 0, none⟩), .int .i64 p] w (RetW (.tuple #[.int .i64 (frameF s p).1.1, .int .i64 0]) fun w' => SpAt w' (L.grow w w') (frameF s p).2 ∧ Chg L.All w w') := by
  have hFF : frameF s p = ((s.stk.next, 0), { s with stk := { s.stk with next := s.stk.next + 1, taken := addN s.stk.taken s.stk.next }, u := { s.u with b := zeroPg s.u.b s.stk.next }, shared := putI s.shared p s.stk.next }) := by
    unfold frameF Stk.take
    rw [hf, if_pos hlt]
  rw [hFF]
  have hne := h.ap.nes
  have H := Lib.hid h
  have f10 := h.blk.cell' (i := 10) (v := .map (some L.xb)) rfl
  have fl := h.blk.lt
  obtain ⟨i0, hi0, hz0, hz1, hz2⟩ := info_parts INTi
  have hl := run_look2 (P := Tryz.prog) Tryz.underlying81 Tryz.underlying3 hi0 hz0 h.sh p
  rw [shm_look, show (s.shared.find? fun x => x.1 == p).map (·.2) = none from hf] at hl
  simp only [Option.map_none, Option.getD_none, Option.isSome_none] at hl
  have HTk := Lib.hid (stkTake_some h.tab.stk hlt)
  obtain ⟨nx, hnx⟩ : ∃ nx, s.stk.next = nx := ⟨_, rfl⟩
  have HNX := Lib.hid (And.intro hnx hlt)
  have HNe := Lib.hid hne
  have f4 := h.blk.cell' (i := 4) (v := .pointer (some ⟨L.sb, 0, none⟩)) rfl
  have HTk' : Hid (Calls Tryz.prog 80 #[.pointer (some ⟨L.sb, 0, none⟩)] w (RetW (.tuple #[.int .i64 nx, .int .i64 0]) fun w' => StkAt w' L.sb L.mp { s.stk with next := nx + 1, taken := addN s.stk.taken nx } ∧ Chg (fun k => k = L.sb ∨ k = L.mp) w w')) := Lib.hid (by rw [← hnx]; exact HTk.out)
  rw [hnx]
  clear h hf hlt hFF hne hi0 hz0 hz1 hz2 hnx HTk
  go_enter Tryz.func85, Tryz.ntmps85
  go_wp2_with fail
  refine HTk'.out.mono ?_
  rintro e w1 ⟨rfl, hs1, C1⟩
  have hpb1 : ¬ (L.pb = L.sb ∨ L.pb = L.mp) := fun e => e.elim HNe.out.1.1 HNe.out.1.2.1
  have HT1 : Hid (TabAt w1 L.SM L.mb s.u.fr L.sb L.mp L.tb s.root s.tst.tk) := Lib.hid (H.out.tab.took HNX.out.2 (by rw [show s.tst.s.next = nx from HNX.out.1]; exact hs1) C1)
  have HC1 := Lib.hid C1
  have HB1 := Lib.hid (C1.blk H.out.blk hpb1)
  have HSP : Hid (Calls Tryz.prog 86 #[.pointer (some ⟨L.mb, 0, none⟩), .int .i64 nx, .slice none 0 0] w1 (RetW (.int .i64 0) fun w' => MemAt w' (Grow L.SM w1) L.mb (zeroPg s.u.b nx) s.u.fr ∧ Chg L.SM w1 w')) := Lib.hid (by
    have := setPage_any HT1.out.mem nx (by have := H.out.tab.ok.fin; have h1 := HNX.out.1; have h2 := HNX.out.2; show nx < s.u.fr; have h3 : s.stk.fin ≤ s.u.fr := H.out.tab.ok.fin; omega) (.slice none 0 0) 0 (fun _ => 0) (fun _ => by show 0 < 256; omega) (Sl.nil w1 NoB 1) (by omega)
    rwa [layPg_zero] at this)
  have g3 := HB1.out.cell' (i := 3) (v := .pointer (some ⟨L.mb, 0, none⟩)) rfl
  have gl := HB1.out.lt
  clear hs1 C1 hpb1 f4 f10 fl hl
  go_wp2_with fail
  refine HSP.out.mono ?_
  rintro e w2 ⟨rfl, hm2, C2⟩
  have hnp := (H.out.ap.nm L.pb (by simp [Pl.names])).2.1
  have HT2 : Hid (TabAt w2 (Grow L.SM w1) L.mb s.u.fr L.sb L.mp L.tb s.root { s.tst.tk with b := zeroPg s.u.b nx }) := Lib.hid (HT1.out.store hm2 C2)
  have HB2 := Lib.hid (C2.blk HB1.out hnp)
  have HC2 := Lib.hid C2
  have hxm := (H.out.ap.nm L.xb (by simp [Pl.names])).2.1
  have hX2 : MapAt w2 L.xb .i64 (shm s.shared) := (H.out.sh.chg HC1.out (fun e => e.elim (fun e => HNe.out.2.1.2.2.2.1 e.symm) fun e => HNe.out.2.2.1.2.2.1 e.symm)).chg C2 hxm
  have e10 := HB2.out.cell' (i := 10) (v := .map (some L.xb)) rfl
  have el := HB2.out.lt
  clear hm2 C2 hnp hxm g3 gl
  go_wp2_with (refine wpList_mapput rfl _ _ _ 81 3 3 rfl Tryz.underlying81 Tryz.underlying3 rfl hX2 p rfl (.int .i64 nx) rfl ?_)
  intro w3 hX3 C3
  have HX : Hid (SpAt w3 (L.grow w w3) { s with stk := { s.stk with next := nx + 1, taken := addN s.stk.taken nx }, u := { s.u with b := zeroPg s.u.b nx }, shared := putI s.shared p nx } ∧ Chg L.All w w3) := Lib.hid (by
    have h := H.out
    have ap := h.ap
    have hne := HNe.out
    have c : Chg (fun k => (k = L.sb ∨ k = L.mp) ∨ L.SM k ∨ k = L.xb) w w3 := ((HC1.out.mono (S' := fun k => (k = L.sb ∨ k = L.mp) ∨ L.SM k ∨ k = L.xb) fun _ _ e => .inl e).trans HC2.out fun k _ e => .inr (.inl e)).trans C3 fun k _ e => .inr (.inr e)
    obtain ⟨x1, x2, x3, x4⟩ := ap.nm L.xb (by simp [Pl.names])
    obtain ⟨p1, p2, p3, p4⟩ := ap.nm L.pb (by simp [Pl.names])
    obtain ⟨u1, u2, u3, u4⟩ := ap.nm L.ub (by simp [Pl.names])
    obtain ⟨s1, s2, s3, s4⟩ := ap.nm L.sb (by simp [Pl.names])
    obtain ⟨m1, m2, m3, m4⟩ := ap.nm L.mp (by simp [Pl.names])
    have hz1 := HC1.out.size
    have ht3 : TabAt w3 (Grow L.SM w) L.mb s.u.fr L.sb L.mp L.tb s.root { s.tst.tk with b := zeroPg s.u.b nx } := (HT2.out.chg C3 fun k hk e => by
      have e : k = L.xb := e
      subst e
      rcases hk with hk | hk | hk | hk
      · rcases hk with hk | hk
        · exact x2 hk
        · omega
      · exact hne.2.1.2.2.2.1 hk.symm
      · exact hne.2.2.1.2.2.1 hk.symm
      · exact hne.2.2.2.1.2.1 hk.symm).wide h.tab fun k hk => hk.elim .inl fun e => .inr (by omega)
    refine ⟨?_, c.mono fun k _ e => ?_⟩
    · have hb : ∀ k, L.SB k → ¬ ((k = L.sb ∨ k = L.mp) ∨ L.SM k ∨ k = L.xb) := fun k hk e => by
        rcases e with (e | e) | e | e
        · exact s3 (e ▸ hk)
        · exact m3 (e ▸ hk)
        · exact (ap.mB k e).1 hk
        · exact x3 (e ▸ hk)
      have := h.re c (fun e => by
        rcases e with (e | e) | e | e
        · exact hne.1.1 e
        · exact hne.1.2.1 e
        · exact p2 e
        · exact hne.1.2.2.2.2.1 e) (fun e => by
        rcases e with (e | e) | e | e
        · exact hne.2.1.2.2.1 e.symm
        · exact hne.2.2.1.2.1 e.symm
        · exact u2 e
        · exact hne.2.2.2.2.1.1 e) (fun k hk e => by
        rcases e with (e | e) | e | e
        · exact s4 (e ▸ hk)
        · exact m4 (e ▸ hk)
        · exact (ap.mB k e).2 hk
        · exact x4 (e ▸ hk)) ht3 (h.mu.tlb.chg c hb) (sh := putI s.shared p nx) (by rw [← shm_put]; exact hX3) (ri := s.rights) (h.ri.chg c fun e => by
        obtain ⟨r1, r2, r3, r4⟩ := ap.nm L.rb (by simp [Pl.names])
        rcases e with (e | e) | e | e
        · exact hne.2.1.2.2.2.2 e.symm
        · exact hne.2.2.1.2.2.2 e.symm
        · exact r2 e
        · exact hne.2.2.2.2.2 e.symm)
      rw [show s.tst.tk.s = { s.stk with next := nx + 1, taken := addN s.stk.taken nx } by rw [← HNX.out.1]; rfl] at this
      exact this
    · rcases e with (e | e) | e | e
      · exact .inl (by simp [Pl.names, e])
      · exact .inl (by simp [Pl.names, e])
      · exact .inr (.inl e)
      · exact .inl (by simp [Pl.names, e]))
  clear hX3 C3 hX2 e10 el
  go_wp2_with fail
  go_ret2
  exact ⟨rfl, HX.out⟩
end Go.Proofs.YtdjaeoeejcmhdaaGreatDoor
