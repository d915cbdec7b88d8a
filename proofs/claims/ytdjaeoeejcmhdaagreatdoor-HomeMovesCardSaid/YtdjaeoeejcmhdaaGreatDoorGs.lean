/- A unit of memory: its leaf of an address. No condition. -/
import Derived.Test.YtdjaeoeejcmhdaaGreatDoorGr
import Derived.Test.YtdjaeoeejcmhdaaGreatDoorGg
import Derived.Test.YtdjaeoeejcmhdaaGreatDoorGm
import Derived.Deep.DeepCutAuto
import Derived.Test.YtdjaeoeejcmhdaaGreatDoorGa
set_option linter.unusedVariables false
set_option linter.unusedSimpArgs false
namespace Go.Proofs.YtdjaeoeejcmhdaaGreatDoor
open Go.RowKit Go.RR
/-- A unit in block ub: its memory in mb, its buffer in bb. -/
structure MuAt (w : World) (SM SB : Nat → Prop) (ub mb bb : Nat) (u : Mu) : Prop where
  blk : Blk w ub #[.pointer (some ⟨mb, 0, none⟩), .pointer (some ⟨bb, 0, none⟩), .bool true, .int .i64 1, .int .u64 u.satp.ppn, .bool true, .bool false, .bool false] 91
  mem : MemAt w SM mb u.b u.fr
  tlb : TlbAt w SB bb u.tlb
  on : u.satp.on = true
  asid : u.satp.asid = 1
  mode : u.mode = UMode
  root : u.satp.ppn < 17592186044416
  fr : u.fr ≤ 1048576
  n1 : ¬ SM ub
  n2 : ¬ SB ub
  n3 : ∀ k, SM k → ¬ SB k
  n4 : ∀ k, SB k → k < w.heap.size
theorem Pte.zero_ok : Pte.zero.Ok := ⟨by decide, by decide, by decide⟩
theorem walk_ok (b : By) (fr va : Nat) (hv : va < 18446744073709551616) : ∀ (l tab : Nat), l ≤ 2 → tab < 17592186044416 → levelB (walkF b fr va l tab).1.level = true ∧ (walkF b fr va l tab).1.p.Ok ∧ (walkF b fr va l tab).1.pos < 18446744073709551616 := by
  have hz : levelB Leaf.zero.level = true ∧ Leaf.zero.p.Ok ∧ Leaf.zero.pos < 18446744073709551616 := ⟨rfl, Pte.zero_ok, by decide⟩
  intro l
  induction l with
  | zero =>
    intro tab hl ht
    unfold walkF
    dsimp only
    have hi : idx va 0 < 512 := Nat.mod_lt _ (by omega)
    have he := entry_ppn b fr (tab * 4096 + 8 * idx va 0)
    split
    · exact hz
    · split
      · refine ⟨rfl, ?_, by show tab * 4096 + 8 * idx va 0 < _; omega⟩
        unfold entryF
        split
        · exact Pte.zero_ok
        · split
          · exact pteG_ok _
          · exact Pte.zero_ok
      · split <;> exact hz
  | succ l ih =>
    intro tab hl ht
    unfold walkF
    dsimp only
    have hi : idx va (l + 1) < 512 := Nat.mod_lt _ (by omega)
    have he := entry_ppn b fr (tab * 4096 + 8 * idx va (l + 1))
    split
    · exact hz
    · split
      · refine ⟨by unfold levelB; simp; omega, ?_, by show tab * 4096 + 8 * idx va (l + 1) < _; omega⟩
        unfold entryF
        split
        · exact Pte.zero_ok
        · split
          · exact pteG_ok _
          · exact Pte.zero_ok
      · split
        · exact hz
        · exact ih _ (by omega) he
theorem findF_ok (b : By) (fr root va : Nat) (hv : va < 18446744073709551616) (hr : root < 17592186044416) : levelB (findF b fr root va).1.level = true ∧ (findF b fr root va).1.p.Ok ∧ (findF b fr root va).1.pos < 18446744073709551616 := by
  unfold findF
  split
  · exact walk_ok b fr va hv 2 root (by omega) hr
  · exact ⟨rfl, Pte.zero_ok, by decide⟩
theorem walk_codes (b : By) (fr va : Nat) : ∀ (l tab : Nat), (walkF b fr va l tab).2 = 0 ∨ (walkF b fr va l tab).2 = 51 ∨ (walkF b fr va l tab).2 = 61 := by
  have he : ∀ a, (entryF b fr a).2 = 0 ∨ (entryF b fr a).2 = 51 ∨ (entryF b fr a).2 = 61 := fun a => by
    unfold entryF
    split
    · exact .inr (.inr rfl)
    · split
      · exact .inl rfl
      · exact .inr (.inl rfl)
  intro l
  induction l with
  | zero =>
    intro tab
    unfold walkF
    dsimp only
    split
    · exact he _
    · split
      · exact .inl rfl
      · split <;> exact .inr (.inl rfl)
  | succ l ih =>
    intro tab
    unfold walkF
    dsimp only
    split
    · exact he _
    · split
      · exact .inl rfl
      · split
        · exact .inr (.inl rfl)
        · exact ih _
theorem findF_codes (b : By) (fr root va : Nat) : (findF b fr root va).2 = 0 ∨ (findF b fr root va).2 = 51 ∨ (findF b fr root va).2 = 61 := by
  unfold findF
  split
  · exact walk_codes b fr va 2 root
  · exact .inr (.inl rfl)
/-- A leaf that may come of the buffer or the tables. -/
structure Leaf.Ok (l : Leaf) : Prop where
  lv : levelB l.level = true
  p : l.p.Ok
  pos : l.pos < 18446744073709551616
theorem waysFind_ok {s : List Way} (h : ∀ e ∈ s, e.Ok) {va : Nat} {asid l : Int} {f : Leaf} (hf : waysFind s va asid l = some f) : f.Ok := by
  unfold waysFind at hf
  rw [Option.map_eq_some_iff] at hf
  obtain ⟨e, he, rfl⟩ := hf
  have := h e (List.mem_of_find?_eq_some he)
  exact ⟨this.lv, this.p, this.pos⟩
theorem TlbAt.ok {w : World} {S : Nat → Prop} {bb : Nat} {b : Tlb} (h : TlbAt w S bb b) (pg : Nat) : ∀ e ∈ tlbSet b pg, e.Ok := by
  obtain ⟨ob, cap, W, gs, cur, h⟩ := h
  have hl := h.l1
  intro e he
  unfold tlbSet at he
  rw [List.getD_eq_getElem?_getD, List.getElem?_eq_getElem (Nat.mod_lt _ (by omega))] at he
  exact (h.rows _ _ (List.getElem?_eq_getElem (Nat.mod_lt pg (by omega)))).2.2.2 e he
theorem TlbAt.find_ok {w : World} {S : Nat → Prop} {bb : Nat} {b : Tlb} (h : TlbAt w S bb b) {va : Nat} {asid : Int} {f : Leaf} (hf : tlbFind b va asid = some f) : f.Ok := by
  unfold tlbFind at hf
  split at hf
  · rename_i l hl
    cases hf
    exact waysFind_ok (h.ok _) hl
  · split at hf
    · rename_i l hl
      cases hf
      exact waysFind_ok (h.ok _) hl
    · exact waysFind_ok (h.ok _) hf
theorem leafF_ok {w : World} {SM SB : Nat → Prop} {ub mb bb : Nat} {u : Mu} (h : MuAt w SM SB ub mb bb u) (va : Nat) (a pick : Int) (hv : va < 18446744073709551616) : (leafF u va a pick).1.1.Ok := by
  unfold leafF
  split
  · rename_i l hl
    exact h.tlb.find_ok hl
  · have hk := findF_ok u.b u.fr u.satp.ppn va hv h.root
    have : (findS u va).1.Ok := by unfold findS; rw [if_pos h.on]; exact ⟨hk.1, hk.2.1, hk.2.2⟩
    dsimp only
    split
    · exact this
    · split <;> exact this
theorem store_chg (w : World) (g : Nat) (vs : List Value) : Chg (· = g) w (w.setCells g 0 vs) := by
  have key : ∀ (vs : List Value) (o : Nat) (w : World), Chg (· = g) w (w.setCells g o vs) := by
    intro vs
    induction vs with
    | nil => intro o w; exact Chg.refl _ _
    | cons x vs ih => intro o w; exact ((Chg.refl (· = g) w).setCell (.inl rfl) x).step (ih (o + 1) _)
  exact key vs 0 w
theorem chain12 (w : World) (g : Nat) (v0 v1 v2 v3 v4 v5 v6 v7 v8 v9 v10 v11 : Value) : ((((((((((((w.setCell ⟨g, 0, none⟩ v0).setCell ⟨g, 1, none⟩ v1).setCell ⟨g, 2, none⟩ v2).setCell ⟨g, 3, none⟩ v3).setCell ⟨g, 4, none⟩ v4).setCell ⟨g, 5, none⟩ v5).setCell ⟨g, 6, none⟩ v6).setCell ⟨g, 7, none⟩ v7).setCell ⟨g, 8, none⟩ v8).setCell ⟨g, 9, none⟩ v9).setCell ⟨g, 10, none⟩ v10).setCell ⟨g, 11, none⟩ v11) = w.setCells g 0 [v0, v1, v2, v3, v4, v5, v6, v7, v8, v9, v10, v11] := rfl
theorem blk_after {w W w' : World} {cs : Array Value} {T : TypeId} (e : W = (w.alloc (.cells cs T)).drew) (c : Chg NoB W w') : Blk w' w.heap.size cs T := by
  subst e
  exact c.blk0 (Blk.new w cs T)
set_option maxHeartbeats 1000000 in
set_option maxRecDepth 100000 in
theorem leaf_any {SM SB : Nat → Prop} {w : World} {ub mb bb : Nat} {u : Mu} (h : MuAt w SM SB ub mb bb u) (va : Nat) (a pick : Int) (hv : va < 18446744073709551616) (ha : Acc a) (p1 : -9223372036854775808 ≤ pick) (p2 : pick ≤ 9223372036854775807) :
    Calls Tryz.prog 55 #[.pointer (some ⟨ub, 0, none⟩), .int .u64 va, .int .i64 a, .int .i64 pick] w (RetW (.tuple #[.agg #[.bool (leafF u va a pick).1.1.p.v, .bool (leafF u va a pick).1.1.p.r, .bool (leafF u va a pick).1.1.p.w, .bool (leafF u va a pick).1.1.p.x, .bool (leafF u va a pick).1.1.p.u, .bool (leafF u va a pick).1.1.p.g, .bool (leafF u va a pick).1.1.p.a, .bool (leafF u va a pick).1.1.p.d, .int .i64 (leafF u va a pick).1.1.p.rsw, .int .u64 (leafF u va a pick).1.1.p.ppn, .int .i64 (leafF u va a pick).1.1.level, .int .u64 (leafF u va a pick).1.1.pos], .int .i64 (leafF u va a pick).1.2]) fun w' => MuAt w' SM SB ub mb bb { u with tlb := (leafF u va a pick).2 } ∧ Chg SB w w') := by
  have HL : Hid (leafF u va a pick = match tlbFind u.tlb va 1 with
    | some l => ((l, -1), u.tlb)
    | none => if (findF u.b u.fr u.satp.ppn va).2 = 0 then (((findF u.b u.fr u.satp.ppn va).1, -1), tlbFill u.tlb va 1 (findF u.b u.fr u.satp.ppn va).1 pick)
      else if (findF u.b u.fr u.satp.ppn va).2 = 61 then (((findF u.b u.fr u.satp.ppn va).1, boundC a), u.tlb) else (((findF u.b u.fr u.satp.ppn va).1, pageC a), u.tlb)) := Lib.hid (by
    unfold leafF findS
    rw [h.asid, if_pos h.on]
    rfl)
  have HF1 := Lib.hid fun w' (c : Chg NoB w w') => tlbFind_any (h.tlb.chg0 c) va 1 hv
  have HF2 := Lib.hid fun w' (c : Chg NoB w w') => find_any (h.mem.chg0 c) va u.satp.ppn 1 hv h.root h.fr
  have HBd := Lib.hid fun w' => boundC_any a ha w'
  have HPg := Lib.hid fun w' => pageC_any a ha w'
  have HH := Lib.hid h
  have HC := Lib.hid ((Chg.refl NoB w).alloc (.cells #[.bool false, .bool false, .bool false, .bool false, .bool false, .bool false, .bool false, .bool false, .int .i64 0, .int .u64 0, .int .i64 0, .int .u64 0] 137))
  have HB := Lib.hid (Blk.new w #[.bool false, .bool false, .bool false, .bool false, .bool false, .bool false, .bool false, .bool false, .int .i64 0, .int .u64 0, .int .i64 0, .int .u64 0] 137)
  have HFill := Lib.hid fun w' (c : Chg NoB w w') l (hl : Leaf.Ok l) => tlbFill_any (h.tlb.chg0 c) va 1 l pick hv hl.lv hl.p hl.pos p1 p2
  have hfok := findF_ok u.b u.fr u.satp.ppn va hv h.root
  have HU := Lib.hid h.blk
  have HX0 : Hid (∀ w', Chg NoB w w' → MuAt w' SM SB ub mb bb { u with tlb := u.tlb } ∧ Chg SB w w') := Lib.hid (fun w' c => ⟨⟨c.blk0 h.blk, h.mem.chg0 c, h.tlb.chg0 c, h.on, h.asid, h.mode, h.root, h.fr, h.n1, h.n2, h.n3, fun k hk => Nat.lt_of_lt_of_le (h.n4 k hk) c.size⟩, c.mono fun _ _ e => e.elim⟩)
  have HX1 : Hid (∀ w' w'' l, Chg NoB w w' → TlbAt w'' SB bb (tlbFill u.tlb va 1 l pick) → Chg SB w' w'' → MuAt w'' SM SB ub mb bb { u with tlb := tlbFill u.tlb va 1 l pick } ∧ Chg SB w w'') := Lib.hid (fun w' w'' l c ht cs =>
    ⟨⟨cs.blk (c.blk0 h.blk) h.n2, (h.mem.chg0 c).chg cs h.n3, ht, h.on, h.asid, h.mode, h.root, h.fr, h.n1, h.n2, h.n3, fun k hk => Nat.lt_of_lt_of_le (h.n4 k hk) (Nat.le_trans c.size cs.size)⟩, (c.mono (S' := SB) fun _ _ e => e.elim).step cs⟩)
  have HN4 := Lib.hid h.n4
  have hok1 : ∀ l, tlbFind u.tlb va 1 = some l → l.Ok := fun l hl => h.tlb.find_ok hl
  obtain ⟨R, hR⟩ : ∃ R, tlbFind u.tlb va 1 = R := ⟨_, rfl⟩
  obtain ⟨F, hF⟩ : ∃ F, findF u.b u.fr u.satp.ppn va = F := ⟨_, rfl⟩
  obtain ⟨ppn0, hppn0⟩ : ∃ q, u.satp.ppn = q := ⟨_, rfl⟩
  rw [hF] at hfok
  have HFill1 := Lib.hid fun w' c => HFill.out w' c F.1 ⟨hfok.1, hfok.2.1, hfok.2.2⟩
  rw [hR, hF] at HL
  rw [hR] at HF1
  rw [hF] at HF2
  rw [hppn0] at HF2 HU
  have HRF : Hid (F.2 = 0 ∨ F.2 = 51 ∨ F.2 = 61) := Lib.hid (by rw [← hF]; exact findF_codes _ _ _ _)
  have HLf : Hid (leafF u va a pick = leafF u va a pick) := Lib.hid rfl
  obtain ⟨O, hO⟩ : ∃ O, leafF u va a pick = O := ⟨_, rfl⟩
  rw [hO] at HL ⊢
  clear h hR hF hppn0 hfok hO hv ha p1 p2 HFill HLf hok1 HH
  obtain ⟨⟨⟨fv, fr', fw, fx, fu', fg, fa, fd, frsw, fppn⟩, flevel, fpos⟩, ec⟩ := F
  dsimp only [Leaf.out] at HF2 HL HFill1 HRF
  obtain ⟨l0, ok, hl0, hok⟩ : ∃ (l0 : Leaf) (ok : Bool), Leaf.oval R = .tuple #[.agg #[.bool l0.p.v, .bool l0.p.r, .bool l0.p.w, .bool l0.p.x, .bool l0.p.u, .bool l0.p.g, .bool l0.p.a, .bool l0.p.d, .int .i64 l0.p.rsw, .int .u64 l0.p.ppn, .int .i64 l0.level, .int .u64 l0.pos], .bool ok] ∧ R = (if ok then some l0 else none) := by
    cases R with
    | none => exact ⟨Leaf.zero, false, rfl, rfl⟩
    | some l => exact ⟨l, true, rfl, rfl⟩
  rw [hl0] at HF1
  have HR := Lib.hid hok
  clear hl0 hok
  obtain ⟨⟨v, r, pw, x, u', g, pa, d, rsw, ppn⟩, level, pos⟩ := l0
  dsimp only at HF1 HR
  go_enter Tryz.func55, Tryz.ntmps55
  go_upto_region 1 with fail
  have HU0 := Lib.hid (HC.out.blk0 HU.out)
  generalize w.alloc (.cells #[.bool false, .bool false, .bool false, .bool false, .bool false, .bool false, .bool false, .bool false, .int .i64 0, .int .u64 0, .int .i64 0, .int .u64 0] 137) = w0 at *
  have fu := HU0.out.ever
  have lu := HU0.out.everL
  have fr := HB.out.ever
  have fz := HB.out.everF
  have lr := HB.out.everL
  have c0 := Chg.refl NoB w0
  clear HU HU0 HB
  have HF1' := Lib.hid fun w' (c : Chg NoB w0 w') => HF1.out w' (HC.out.step c)
  have HF2' := Lib.hid fun w' (c : Chg NoB w0 w') => HF2.out w' (HC.out.step c)
  go_cut [10, 11] (fun s10 s11 wx => ∃ nb : Nat, s10 = .pointer (some ⟨nb, 0, none⟩) ∧ s11 = .bool ok ∧ Blk wx nb #[.bool v, .bool r, .bool pw, .bool x, .bool u', .bool g, .bool pa, .bool d, .int .i64 rsw, .int .u64 ppn, .int .i64 level, .int .u64 pos] 137 ∧ Chg NoB w0 wx ∧ w0.heap.size ≤ nb)
  case first =>
    go_region_held3 (fun w' => Chg NoB w0 w') ((repeat (first | with_reducible assumption | with_reducible apply Chg.drew | with_reducible apply Chg.drewN | with_reducible apply Chg.alloc | with_reducible refine Chg.setCell ?_ (Or.inr (Nat.le_refl _)) _))) (first | (go_at_call 98; (with_reducible refine (HF1'.out _ (by assumption)).mono ?_); rintro e w9 ⟨rfl, hC⟩; have c9 := Chg.step (by assumption) hC; (try (have B9 := Lib.hid (blk_after (w := w0) (cs := #[.bool false, .bool false, .bool false, .bool false, .bool false, .bool false, .bool false, .bool false, .int .i64 0, .int .u64 0, .int .i64 0, .int .u64 0]) (T := 137) (by with_reducible rfl) hC); have b9 := B9.out.cell; have bf9 := B9.out.frozen; have bl9 := B9.out.lt)); clear hC))
    all_goals
      have c9 : Chg NoB w0 w9 := by with_reducible assumption
      clear fu lu fr fz lr
      first
        | (have HS := store_all B9.out [.bool v, .bool r, .bool pw, .bool x, .bool u', .bool g, .bool pa, .bool d, .int .i64 rsw, .int .u64 ppn, .int .i64 level, .int .u64 pos] rfl
           have HD := Lib.hid (And.intro HS.1 (c9.trans HS.2 fun k hk e => by have e : k = w0.heap.size := e; omega))
           clear HS b9 bf9 bl9 B9 c9
           go_wp2_with fail
           go_meet
           rw [chain12]
           exact ⟨_, rfl, rfl, HD.out.1, HD.out.2, Nat.le_refl _⟩)
        | (have HD := Lib.hid (c9.alloc (.cells #[.bool v, .bool r, .bool pw, .bool x, .bool u', .bool g, .bool pa, .bool d, .int .i64 rsw, .int .u64 ppn, .int .i64 level, .int .u64 pos] 137))
           have HS := Lib.hid c9.size
           clear c9
           go_wp2_with fail
           go_meet
           exact ⟨_, rfl, rfl, Blk.new _ _ _, HD.out, HS.out⟩)
  case rest =>
    obtain ⟨nb, rfl, rfl, hBl, hCl, hnb⟩ := hcut
    have HCl := Lib.hid hCl
    have HBl := Lib.hid hBl
    have HU1 := Lib.hid (fun w' (c : Chg NoB wc w') => fu w' (hCl.step c))
    have HU2 := Lib.hid (fun w' (c : Chg NoB wc w') => lu w' (hCl.step c))
    have HR1 := Lib.hid (fun w' (c : Chg NoB wc w') => fr w' (hCl.step c))
    have HR2 := Lib.hid (fun w' (c : Chg NoB wc w') => fz w' (hCl.step c))
    have HR3 := Lib.hid (fun w' (c : Chg NoB wc w') => lr w' (hCl.step c))
    have HWF := Lib.hid (fun w' (c : Chg NoB wc w') => HF2'.out w' (hCl.step c))
    have HRN : Hid (w.heap.size < w0.heap.size ∧ ub < w0.heap.size) := Lib.hid ⟨lr _ c0, lu _ c0⟩
    have HFu := Lib.hid fu
    have HFl := Lib.hid lu
    have HFr := Lib.hid fr
    have HFz := Lib.hid fz
    have HFrl := Lib.hid lr
    clear hCl hBl fu lu fr fz lr HF1' HF2' HF1 HF2 c0
    have gu := HU1.out
    have gl := HU2.out
    have gr := HR1.out
    have gz := HR2.out
    have grl := HR3.out
    have gb := HBl.out.ever
    have gbl := HBl.out.everL
    have gbz := HBl.out.everF
    have cc := Chg.refl NoB wc
    cases ok
    · go_upto_region 4 with fail
      go_cut [12] (fun s12 wy => s12 = .int .i64 ec ∧ Blk wy nb #[.bool fv, .bool fr', .bool fw, .bool fx, .bool fu', .bool fg, .bool fa, .bool fd, .int .i64 frsw, .int .u64 fppn, .int .i64 flevel, .int .u64 fpos] 137 ∧ Chg NoB w0 wy)
      case first =>
        have cn := Chg.refl (fun k => k = nb) wc
        have nu : ub ≠ nb := by have := HRN.out.2; omega
        have gu2 : ∀ w', Chg (fun k => k = nb) wc w' → ∀ i, w'.cell? ⟨ub, i, none⟩ = wc.cell? ⟨ub, i, none⟩ := fun w' c i => World.cell?_of_block (c.block ub (gl wc cc) nu)
        refine wp_region_mix 14 [(true, 0), (true, 1), (true, 2), (true, 3), (true, 4), (true, 5), (true, 6), (true, 7), (true, 8), (false, 9), (true, 10), (true, 11), (true, 12), (false, 13)] (fun w' => Chg (fun k => k = nb) wc w') (by kernel_rfl) (by kernel_rfl) (fun _ _ _ _ _ h => h) (cn.drew) ?_
        simp only [pickMix_nil, pickMix_cons, Option.getD_some, List.getElem?_toArray, List.getElem?_cons_zero, List.getElem?_cons_succ, List.cons_append, List.nil_append, List.drop_succ_cons, List.drop_zero]
        iterate 9
         refine wpMix_take rfl ?_
         apply Exists.intro
         refine ⟨fun wS hS => ?_, ?_⟩
         · try dsimp only at hS
           have cS := hS
           go_simp
           try rfl
         simp only [Act.put, List.setIfInBounds_toArray, List.set_cons_zero, List.set_cons_succ]
        refine wpMix_force rfl (fun K hK => ?_)
        go_simp
        refine (HWF.out _ cc.drew).mono ?_
        rintro e w9 ⟨rfl, C9⟩
        have c9 := cc.drew.step C9
        refine hK _ _ (c9.mono fun _ _ e => e.elim) ?_
        clear hK K C9
        iterate 3
         refine wpMix_take rfl ?_
         apply Exists.intro
         refine ⟨fun wS hS => ?_, ?_⟩
         · try dsimp only at hS
           have cS := hS
           go_simp
           try rfl
         simp only [Act.put, List.setIfInBounds_toArray, List.set_cons_zero, List.set_cons_succ]
        refine wpMix_force rfl (fun K hK => ?_)
        go_simp
        have HS := store_all (c9.blk0 HBl.out) [.bool fv, .bool fr', .bool fw, .bool fx, .bool fu', .bool fg, .bool fa, .bool fd, .int .i64 frsw, .int .u64 fppn, .int .i64 flevel, .int .u64 fpos] rfl
        have HD := Lib.hid (And.intro HS.1 ((HCl.out.step c9).trans HS.2 fun k hk e => by have e : k = nb := e; omega))
        rw [chain12]
        refine hK _ _ ((c9.mono (S' := fun k => k = nb) fun _ _ e => e.elim).trans HS.2 fun k hk e => e) ?_
        clear hK K HS
        refine wpMix_nil ?_
        clear gu gu2 gl gr gz grl gb gbl gbz cc cn c9
        go_wp2_with fail
        go_meet
        exact ⟨rfl, HD.out.1, HD.out.2⟩
      case rest =>
        clear gu gl gr gz grl gb gbl gbz cc HBl HCl HU1 HU2 HR1 HR2 HR3 HWF
        obtain ⟨rfl, hBf, hCf⟩ := hcut
        have HBf := Lib.hid hBf
        have HCf := Lib.hid hCf
        have cc := Chg.refl NoB wc
        have gu : ∀ w', Chg NoB wc w' → _ := fun w' c => HFu.out w' (HCf.out.step c)
        have gl : ∀ w', Chg NoB wc w' → _ := fun w' c => HFl.out w' (HCf.out.step c)
        have gr : ∀ w', Chg NoB wc w' → _ := fun w' c => HFr.out w' (HCf.out.step c)
        have gz : ∀ w', Chg NoB wc w' → _ := fun w' c => HFz.out w' (HCf.out.step c)
        have grl : ∀ w', Chg NoB wc w' → _ := fun w' c => HFrl.out w' (HCf.out.step c)
        have gb := HBf.out.ever
        have gbl := HBf.out.everL
        clear hBf hCf
        by_cases e0 : ec = 0
        · subst e0
          have HO : Hid (O = ((⟨⟨fv, fr', fw, fx, fu', fg, fa, fd, frsw, fppn⟩, flevel, fpos⟩, -1), tlbFill u.tlb va 1 ⟨⟨fv, fr', fw, fx, fu', fg, fa, fd, frsw, fppn⟩, flevel, fpos⟩ pick)) := Lib.hid (by rw [HL.out, HR.out]; rfl)
          go_upto_region 7 with fail
          refine wp_region_mix 12 [(true, 0), (true, 1), (true, 2), (true, 3), (true, 4), (true, 5), (true, 6), (true, 7), (true, 8), (true, 9), (true, 10), (true, 11)] (fun w' => Chg NoB wc w') (by kernel_rfl) (by kernel_rfl) (fun _ _ _ _ _ h => h) (cc.drew) ?_
          simp only [pickMix_nil, pickMix_cons, Option.getD_some, List.getElem?_toArray, List.getElem?_cons_zero, List.getElem?_cons_succ, List.cons_append, List.nil_append, List.drop_succ_cons, List.drop_zero]
          iterate 12
           refine wpMix_take rfl ?_
           apply Exists.intro
           refine ⟨fun wS hS => ?_, ?_⟩
           · try dsimp only at hS
             have cS := hS
             go_simp
             try rfl
           simp only [Act.put, List.setIfInBounds_toArray, List.set_cons_zero, List.set_cons_succ]
          refine wpMix_nil ?_
          go_wp2_with fail
          refine (HFill1.out _ ((HC.out.step HCf.out).drew)).mono ?_
          rintro e w9 ⟨rfl, hT9, C9⟩
          have hsw : w.heap.size < w0.heap.size := HRN.out.1
          have B9 := Lib.hid (C9.blk (HBf.out.drew) (fun e => by have := HN4.out _ e; omega))
          have hR9 : ∀ i, w9.cell? ⟨w.heap.size, i, none⟩ = wc.cell? ⟨w.heap.size, i, none⟩ := fun i => World.cell?_of_block (C9.block w.heap.size (grl wc cc) (fun e => Nat.lt_irrefl _ (HN4.out _ e)))
          have hz9 : ∀ i, w9.frozen? ⟨w.heap.size, i, none⟩ = false := fun i => by
            unfold World.frozen?
            rw [show w9.heap[w.heap.size]? = wc.heap[w.heap.size]? from C9.block w.heap.size (grl wc cc) (fun e => Nat.lt_irrefl _ (HN4.out _ e))]
            exact gz wc cc i
          have hr9 : ∀ i, w9.cell? ⟨w.heap.size, i, none⟩ = (#[.bool false, .bool false, .bool false, .bool false, .bool false, .bool false, .bool false, .bool false, .int .i64 0, .int .u64 0, .int .i64 0, .int .u64 0])[i]? := fun i => (hR9 i).trans (gr wc cc i)
          have hl9 : w.heap.size < w9.heap.size := Nat.lt_of_lt_of_le (grl wc cc) C9.size
          have n9 := B9.out.cell
          have nl9 := B9.out.lt
          have HXX := Lib.hid (And.intro hT9 (((HC.out.step HCf.out).drew.mono (S' := SB) fun _ _ e => e.elim).step C9))
          clear gb gbl gr gz grl gu gl cc hT9 C9 hR9
          go_wp2_with fail
          exact bodyPost_ret (v := .tuple #[.agg #[.bool fv, .bool fr', .bool fw, .bool fx, .bool fu', .bool fg, .bool fa, .bool fd, .int .i64 frsw, .int .u64 fppn, .int .i64 flevel, .int .u64 fpos], .int .i64 (-1)]) (by simp [results, Tryz.results55, go_sem, hr9, hl9]) rfl ⟨by rw [HO.out], by
            rw [HO.out]
            have cR := store_chg w9 w.heap.size [.bool fv, .bool fr', .bool fw, .bool fx, .bool fu', .bool fg, .bool fa, .bool fd, .int .i64 frsw, .int .u64 fppn, .int .i64 flevel, .int .u64 fpos]
            have cF := HXX.out.2.trans cR fun k hk e => by have e : k = w.heap.size := e; omega
            rw [chain12]
            exact HX1.out w _ _ (Chg.refl _ _) (HXX.out.1.chg cR fun k hk e => by have e : k = w.heap.size := e; have := HN4.out _ hk; omega) cF⟩
        · have t0 : (ec == 0) = false := by rw [beq_eq_false_iff_ne]; exact e0
          by_cases e1 : ec = 61
          · subst e1
            have HO : Hid (O = ((⟨⟨fv, fr', fw, fx, fu', fg, fa, fd, frsw, fppn⟩, flevel, fpos⟩, boundC a), u.tlb)) := Lib.hid (by rw [HL.out, HR.out]; rfl)
            clear e0
            go_upto_region 10 with fail
            refine wp_region_mix 3 [(true, 0), (true, 1), (false, 2)] (fun w' => Chg NoB wc w') (by kernel_rfl) (by kernel_rfl) (fun _ _ _ _ _ h => h) (cc.drew) ?_
            simp only [pickMix_nil, pickMix_cons, Option.getD_some, List.getElem?_toArray, List.getElem?_cons_zero, List.getElem?_cons_succ, List.cons_append, List.nil_append, List.drop_succ_cons, List.drop_zero]
            iterate 2
             refine wpMix_take rfl ?_
             apply Exists.intro
             refine ⟨fun wS hS => ?_, ?_⟩
             · try dsimp only at hS
               have cS := hS
               go_simp
               try rfl
             simp only [Act.put, List.setIfInBounds_toArray, List.set_cons_zero, List.set_cons_succ]
            refine wpMix_force rfl (fun K hK => ?_)
            go_simp
            refine (HBd.out _).mono ?_
            rintro e w9 ⟨rfl, C9⟩
            have c9 := cc.drew.step C9
            refine hK _ _ c9 ?_
            clear hK K C9
            refine wpMix_nil ?_
            have HCC := Lib.hid (HC.out.step (HCf.out.step c9))
            go_wp2_with fail
            exact bodyPost_ret (v := .tuple #[.agg #[.bool fv, .bool fr', .bool fw, .bool fx, .bool fu', .bool fg, .bool fa, .bool fd, .int .i64 frsw, .int .u64 fppn, .int .i64 flevel, .int .u64 fpos], .int .i64 (boundC a)]) (by simp [results, Tryz.results55, go_sem, gr, grl, c9]) rfl ⟨by rw [HO.out], by rw [HO.out]; exact HX0.out _ (((((((((((((HCC.out.setCell (.inr (Nat.le_refl _)) _).setCell (.inr (Nat.le_refl _)) _).setCell (.inr (Nat.le_refl _)) _).setCell (.inr (Nat.le_refl _)) _).setCell (.inr (Nat.le_refl _)) _).setCell (.inr (Nat.le_refl _)) _).setCell (.inr (Nat.le_refl _)) _).setCell (.inr (Nat.le_refl _)) _).setCell (.inr (Nat.le_refl _)) _).setCell (.inr (Nat.le_refl _)) _).setCell (.inr (Nat.le_refl _)) _).setCell (.inr (Nat.le_refl _)) _))⟩
          · have t1 : (ec == 61) = false := by rw [beq_eq_false_iff_ne]; exact e1
            have HO : Hid (O = ((⟨⟨fv, fr', fw, fx, fu', fg, fa, fd, frsw, fppn⟩, flevel, fpos⟩, pageC a), u.tlb)) := Lib.hid (by rw [HL.out, HR.out]; simp [e0, e1])
            clear e0 e1
            go_upto_region 11 with fail
            refine wp_region_mix 3 [(true, 0), (true, 1), (false, 2)] (fun w' => Chg NoB wc w') (by kernel_rfl) (by kernel_rfl) (fun _ _ _ _ _ h => h) (cc.drew) ?_
            simp only [pickMix_nil, pickMix_cons, Option.getD_some, List.getElem?_toArray, List.getElem?_cons_zero, List.getElem?_cons_succ, List.cons_append, List.nil_append, List.drop_succ_cons, List.drop_zero]
            iterate 2
             refine wpMix_take rfl ?_
             apply Exists.intro
             refine ⟨fun wS hS => ?_, ?_⟩
             · try dsimp only at hS
               have cS := hS
               go_simp
               try rfl
             simp only [Act.put, List.setIfInBounds_toArray, List.set_cons_zero, List.set_cons_succ]
            refine wpMix_force rfl (fun K hK => ?_)
            go_simp
            refine (HPg.out _).mono ?_
            rintro e w9 ⟨rfl, C9⟩
            have c9 := cc.drew.step C9
            refine hK _ _ c9 ?_
            clear hK K C9
            refine wpMix_nil ?_
            have HCC := Lib.hid (HC.out.step (HCf.out.step c9))
            go_wp2_with fail
            exact bodyPost_ret (v := .tuple #[.agg #[.bool fv, .bool fr', .bool fw, .bool fx, .bool fu', .bool fg, .bool fa, .bool fd, .int .i64 frsw, .int .u64 fppn, .int .i64 flevel, .int .u64 fpos], .int .i64 (pageC a)]) (by simp [results, Tryz.results55, go_sem, gr, grl, c9]) rfl ⟨by rw [HO.out], by rw [HO.out]; exact HX0.out _ (((((((((((((HCC.out.setCell (.inr (Nat.le_refl _)) _).setCell (.inr (Nat.le_refl _)) _).setCell (.inr (Nat.le_refl _)) _).setCell (.inr (Nat.le_refl _)) _).setCell (.inr (Nat.le_refl _)) _).setCell (.inr (Nat.le_refl _)) _).setCell (.inr (Nat.le_refl _)) _).setCell (.inr (Nat.le_refl _)) _).setCell (.inr (Nat.le_refl _)) _).setCell (.inr (Nat.le_refl _)) _).setCell (.inr (Nat.le_refl _)) _).setCell (.inr (Nat.le_refl _)) _))⟩
    · have HO : Hid (O = ((⟨⟨v, r, pw, x, u', g, pa, d, rsw, ppn⟩, level, pos⟩, -1), u.tlb)) := Lib.hid (by rw [HL.out, HR.out]; rfl)
      have HX := Lib.hid (fun w' c => HX0.out w' c)
      have HCC := Lib.hid (HC.out.step HCl.out)
      go_wp2_with fail
      exact bodyPost_ret (v := .tuple #[.agg #[.bool v, .bool r, .bool pw, .bool x, .bool u', .bool g, .bool pa, .bool d, .int .i64 rsw, .int .u64 ppn, .int .i64 level, .int .u64 pos], .int .i64 (-1)]) (by simp [results, Tryz.results55, go_sem, gr, grl, cc]) rfl ⟨by rw [HO.out], by rw [HO.out]; exact HX.out _ (((((((((((((HCC.out.setCell (.inr (Nat.le_refl _)) _).setCell (.inr (Nat.le_refl _)) _).setCell (.inr (Nat.le_refl _)) _).setCell (.inr (Nat.le_refl _)) _).setCell (.inr (Nat.le_refl _)) _).setCell (.inr (Nat.le_refl _)) _).setCell (.inr (Nat.le_refl _)) _).setCell (.inr (Nat.le_refl _)) _).setCell (.inr (Nat.le_refl _)) _).setCell (.inr (Nat.le_refl _)) _).setCell (.inr (Nat.le_refl _)) _).setCell (.inr (Nat.le_refl _)) _))⟩
end Go.Proofs.YtdjaeoeejcmhdaaGreatDoor
