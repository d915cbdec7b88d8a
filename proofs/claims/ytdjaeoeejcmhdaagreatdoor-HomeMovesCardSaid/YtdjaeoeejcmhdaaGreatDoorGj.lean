/- Tables of a space: frames taken for them, entries' places, what leads on. No condition. What a unit's tables and buffer mean: which page has which entry. Plain, no program. No condition. Tables: New, Root, an entry's place, what leads on. No condition. -/
import Derived.Test.YtdjaeoeejcmhdaaGreatDoorGh
import Derived.Test.YtdjaeoeejcmhdaaGreatDoorGe
import Derived.Test.YtdjaeoeejcmhdaaGreatDoorGc
import Derived.Test.YtdjaeoeejcmhdaaGreatDoorGd
set_option linter.unusedVariables false
set_option linter.unusedSimpArgs false
namespace Go.Proofs.YtdjaeoeejcmhdaaGreatDoor
open Go.RowKit Go.RR
/-- Tables in block tb of the stock in sb (its map in mp) and the memory mb, whose blocks are in SM. -/
structure TabAt (w : World) (SM : Nat → Prop) (mb fr sb mp tb root : Nat) (t : Tst) : Prop where
  mem : MemAt w SM mb t.b fr
  stk : StkAt w sb mp t.s
  tab : Blk w tb #[.pointer (some ⟨mb, 0, none⟩), .pointer (some ⟨sb, 0, none⟩), .int .i64 root, .int .i64 t.used] 166
  n1 : ¬ SM sb
  n2 : ¬ SM mp
  n3 : ¬ SM tb
  n4 : tb ≠ sb
  n5 : tb ≠ mp
  ok : t.s.Ok fr
  us : t.used ≤ t.s.next
  fr : fr ≤ 1048576
def TS (SM : Nat → Prop) (sb mp tb : Nat) : Nat → Prop := fun k => SM k ∨ k = sb ∨ k = mp ∨ k = tb
section
variable {w w' w'' : World} {SM SM' S : Nat → Prop} {mb fr sb mp tb root : Nat} {t : Tst}
theorem TabAt.chg (h : TabAt w SM mb fr sb mp tb root t) (c : Chg S w w') (hs : ∀ k, TS SM sb mp tb k → ¬ S k) : TabAt w' SM mb fr sb mp tb root t :=
  ⟨h.mem.chg c fun k hk => hs k (.inl hk), h.stk.chg c (hs _ (.inr (.inl rfl))) (hs _ (.inr (.inr (.inl rfl)))), c.blk h.tab (hs _ (.inr (.inr (.inr rfl)))), h.n1, h.n2, h.n3, h.n4, h.n5, h.ok, h.us, h.fr⟩
theorem TabAt.chg0 (h : TabAt w SM mb fr sb mp tb root t) (c : Chg NoB w w') : TabAt w' SM mb fr sb mp tb root t := h.chg c fun _ _ => id
/-- Another footprint, alike on the blocks that there are. -/
theorem TabAt.mono (h : TabAt w SM mb fr sb mp tb root t) (hs : ∀ k, k < w.heap.size → (SM k ↔ SM' k)) : TabAt w SM' mb fr sb mp tb root t :=
  ⟨h.mem.mono fun k hk => (hs k hk).1, h.stk, h.tab, fun e => h.n1 ((hs _ h.stk.blk.lt).2 e), fun e => h.n2 ((hs _ h.stk.map.lt).2 e), fun e => h.n3 ((hs _ h.tab.lt).2 e), h.n4, h.n5, h.ok, h.us, h.fr⟩
/-- Behind a store into the memory. -/
theorem TabAt.store {b : By} (h : TabAt w SM mb fr sb mp tb root t) (hm : MemAt w' (Grow SM w) mb b fr) (c : Chg SM w w') : TabAt w' (Grow SM w) mb fr sb mp tb root { t with b := b } :=
  ⟨hm, h.stk.chg c h.n1 h.n2, c.blk h.tab h.n3, fun e => e.elim h.n1 (fun e => by have := h.stk.blk.lt; omega), fun e => e.elim h.n2 (fun e => by have := h.stk.map.lt; omega),
    fun e => e.elim h.n3 (fun e => by have := h.tab.lt; omega), h.n4, h.n5, h.ok, h.us, h.fr⟩
theorem TabAt.grow2 (h : TabAt w'' (Grow (Grow SM w) w') mb fr sb mp tb root t) (hs : w.heap.size ≤ w'.heap.size) : TabAt w'' (Grow SM w) mb fr sb mp tb root t :=
  h.mono fun k hk => ⟨fun e => e.elim id fun e => .inr (by omega), fun e => .inl e⟩
theorem TabAt.grow3 {t' : Tst} (h : TabAt w'' (Grow SM w') mb fr sb mp tb root t') (h0 : TabAt w SM mb fr sb mp tb root t) (hs : w.heap.size ≤ w'.heap.size) : TabAt w'' (Grow SM w) mb fr sb mp tb root t' := by
  have := h0.stk.blk.lt; have := h0.stk.map.lt; have := h0.tab.lt
  exact ⟨h.mem.mono fun k _ e => e.elim .inl fun e => .inr (by omega), h.stk, h.tab, fun e => e.elim h0.n1 (fun e => by omega), fun e => e.elim h0.n2 (fun e => by omega), fun e => e.elim h0.n3 (fun e => by omega), h.n4, h.n5, h.ok, h.us, h.fr⟩
/-- What was there before a call, in a wider footprint. -/
theorem TabAt.grow0 (h : TabAt w' SM mb fr sb mp tb root t) (h0 : TabAt w SM mb fr sb mp tb root t) : TabAt w' (Grow SM w) mb fr sb mp tb root t := by
  have := h0.stk.blk.lt; have := h0.stk.map.lt; have := h0.tab.lt
  exact ⟨h.mem.mono fun k _ e => .inl e, h.stk, h.tab, fun e => e.elim h0.n1 (fun e => by omega), fun e => e.elim h0.n2 (fun e => by omega), fun e => e.elim h0.n3 (fun e => by omega), h.n4, h.n5, h.ok, h.us, h.fr⟩
theorem TS.grow {k : Nat} (h : TS (Grow SM w) sb mp tb k) (hk : k < w.heap.size) : TS SM sb mp tb k := by
  rcases h with h | h
  · rcases h with h | h
    · exact .inl h
    · exact absurd hk (by omega)
  · exact .inr h
end
theorem tabTake_some {t : Tst} (h : t.s.next < t.s.fin) : tabTake t = ((t.s.next, 0), ⟨zeroPg t.b t.s.next, { t.s with next := t.s.next + 1, taken := addN t.s.taken t.s.next }, t.used + 1⟩) := by
  unfold tabTake Stk.take
  rw [if_pos h]
theorem tabTake_none {t : Tst} (h : t.s.fin ≤ t.s.next) : tabTake t = ((0, 50), t) := by
  unfold tabTake Stk.take
  rw [if_neg (by omega)]
theorem layPg_zero (b : By) (f : Nat) : layPg b f (padF (fun _ => 0) 0) = zeroPg b f := by
  funext a
  unfold layPg zeroPg padF
  simp
set_option maxRecDepth 100000 in
theorem take_none {SM : Nat → Prop} {w : World} {mb fr sb mp tb root : Nat} {t : Tst} (h : TabAt w SM mb fr sb mp tb root t) (hge : t.s.fin ≤ t.s.next) :
    Calls Tryz.prog 79 #[.pointer (some ⟨tb, 0, none⟩)] w (RetW (.tuple #[.int .i64 (-1), .int .i64 50]) fun w' => TabAt w' SM mb fr sb mp tb root t ∧ Chg NoB w w') := by
  have H := Lib.hid h
  have HT := Lib.hid (stkTake_none h.stk hge)
  have e1 := h.tab.cell' (i := 1) (v := .pointer (some ⟨sb, 0, none⟩)) rfl
  have hl := h.tab.lt
  clear h hge
  go_enter Tryz.func79, Tryz.ntmps79
  go_wp2_with fail
  with_reducible refine HT.out.mono ?_
  rintro e w1 ⟨rfl, C1⟩
  have HX := Lib.hid (And.intro (H.out.chg0 C1) C1)
  clear C1
  go_wp2_with fail
  go_ret2
  exact ⟨rfl, HX.out⟩
set_option maxRecDepth 100000 in
theorem take_some {SM : Nat → Prop} {w : World} {mb fr sb mp tb root : Nat} {t : Tst} (h : TabAt w SM mb fr sb mp tb root t) (hlt : t.s.next < t.s.fin) :
    Calls Tryz.prog 79 #[.pointer (some ⟨tb, 0, none⟩)] w (RetW (.tuple #[.int .i64 t.s.next, .int .i64 0]) fun w' => TabAt w' (Grow SM w) mb fr sb mp tb root (tabTake t).2 ∧ Chg (TS SM sb mp tb) w w') := by
  have H := Lib.hid h
  have HT := Lib.hid (stkTake_some h.stk hlt)
  have e1 := h.tab.cell' (i := 1) (v := .pointer (some ⟨sb, 0, none⟩)) rfl
  have hl := h.tab.lt
  obtain ⟨nx, hnx⟩ : ∃ nx, t.s.next = nx := ⟨_, rfl⟩
  have HP : Hid (∀ w1, Chg (fun k => k = sb ∨ k = mp) w w1 → Calls Tryz.prog 86 #[.pointer (some ⟨mb, 0, none⟩), .int .i64 nx, .slice none 0 0] w1 (RetW (.int .i64 0) fun w' => MemAt w' (Grow SM w1) mb (zeroPg t.b nx) fr ∧ Chg SM w1 w')) := Lib.hid fun w1 c => by
    have := setPage_any (h.mem.chg c (fun k hk e => e.elim (fun e => h.n1 (e ▸ hk)) fun e => h.n2 (e ▸ hk))) nx (by have := h.ok.fin; omega) (.slice none 0 0) 0 (fun _ => 0) (fun _ => by show 0 < 256; omega) (Sl.nil w1 NoB 1) (by omega)
    rwa [layPg_zero] at this
  have hus : ((t.used : Int) + 1) ≤ 9223372036854775807 := by have := h.us; have := h.ok.next; have := h.ok.fin; have := h.fr; omega
  have HR : Hid (∀ w1 w2, StkAt w1 sb mp { t.s with next := nx + 1, taken := addN t.s.taken nx } → Chg (fun k => k = sb ∨ k = mp) w w1 → MemAt w2 (Grow SM w1) mb (zeroPg t.b nx) fr → Chg SM w1 w2 →
      Blk w2 tb #[.pointer (some ⟨mb, 0, none⟩), .pointer (some ⟨sb, 0, none⟩), .int .i64 root, .int .i64 t.used] 166 ∧
      (TabAt (w2.setCell ⟨tb, 3, none⟩ (.int .i64 ((t.used : Int) + 1))) (Grow SM w) mb fr sb mp tb root (tabTake t).2 ∧ Chg (TS SM sb mp tb) w (w2.setCell ⟨tb, 3, none⟩ (.int .i64 ((t.used : Int) + 1))))) := Lib.hid fun w1 w2 k1 c1 m2 c2 => by
    rw [tabTake_some hlt, hnx]
    have b1 := c1.blk h.tab (fun e => e.elim h.n4 h.n5)
    have b2 := c2.blk b1 h.n3
    have c3 : Chg (fun k => k = tb) w2 (w2.setCell ⟨tb, 3, none⟩ (.int .i64 ((t.used : Int) + 1))) := (Chg.refl (fun k => k = tb) w2).setCell (.inl rfl) _
    have g : ∀ k, k < w.heap.size → Grow SM w k → SM k := fun k hk e => e.elim id fun e => by omega
    have m2' : MemAt w2 (Grow SM w) mb (zeroPg t.b nx) fr := m2.mono fun k _ e => e.elim .inl fun e => .inr (by have := c1.size; omega)
    have hd : ∀ k, Grow SM w k → ¬ k = tb := fun k hk e => h.n3 (g _ h.tab.lt (e ▸ hk))
    have k2 := (k1.chg c2 h.n1 h.n2).chg c3 (fun e => h.n4 e.symm) (fun e => h.n5 e.symm)
    refine ⟨b2, ⟨m2'.chg c3 hd, k2, b2.set 3 _, fun e => h.n1 (g _ h.stk.blk.lt e), fun e => h.n2 (g _ h.stk.map.lt e), fun e => h.n3 (g _ h.tab.lt e), h.n4, h.n5, ⟨?_, h.ok.fin⟩, ?_, h.fr⟩, ?_⟩
    · show nx + 1 ≤ t.s.fin; omega
    · show t.used + 1 ≤ nx + 1; have := h.us; omega
    · exact (((c1.mono (S' := TS SM sb mp tb) fun k _ e => .inr (e.elim .inl fun e => .inr (.inl e))).trans c2 fun k _ e => .inl e).trans c3 fun k _ e => .inr (.inr (.inr e)))
  have HB0 : Hid (∀ w1, Chg (fun k => k = sb ∨ k = mp) w w1 → Blk w1 tb #[.pointer (some ⟨mb, 0, none⟩), .pointer (some ⟨sb, 0, none⟩), .int .i64 root, .int .i64 t.used] 166) := Lib.hid fun w1 c1 => c1.blk h.tab (fun e => e.elim h.n4 h.n5)
  rw [hnx] at HT ⊢
  clear h hlt hnx H
  go_enter Tryz.func79, Tryz.ntmps79
  go_wp2_with fail
  with_reducible refine HT.out.mono ?_
  rintro e w1 ⟨rfl, K1, C1⟩
  have HK := Lib.hid K1
  have HC := Lib.hid C1
  have B1 := HB0.out w1 C1
  have f0 := B1.cell' (i := 0) (v := .pointer (some ⟨mb, 0, none⟩)) rfl
  have hl1 := B1.lt
  clear K1 C1 B1
  go_wp2_with fail
  with_reducible refine (HP.out _ HC.out).mono ?_
  rintro e w2 ⟨rfl, M2, C2⟩
  obtain ⟨B2, HX⟩ := HR.out _ _ HK.out HC.out M2 C2
  have HX := Lib.hid HX
  have g3 := B2.cell' (i := 3) (v := .int .i64 t.used) rfl
  have gl := B2.lt
  have gz := B2.frozen 3
  clear M2 C2 B2
  go_wp2_with fail
  go_ret2
  exact ⟨rfl, HX.out⟩
end Go.Proofs.YtdjaeoeejcmhdaaGreatDoor
set_option linter.unusedVariables false
set_option linter.unusedSimpArgs false
namespace Go.Proofs.YtdjaeoeejcmhdaaGreatDoor
open Go.RowKit Go.RR
def wordO : Option Pte → Nat
  | none => 0
  | some p => pteW p
/-- Tables: t1 the second level's, by the root's places; t0 the last level's, by 512 pages each; lf the entries, by pages. -/
structure TabOk (b : By) (fr root : Nat) (t1 t0 : Nat → Option Nat) (lf : Nat → Option Pte) : Prop where
  rt : root < fr
  e1 : ∀ i, i < 512 → getW b (root * 4096 + 8 * i) 8 = wordO ((t1 i).map ptrP)
  e0 : ∀ i f, i < 512 → t1 i = some f → f < fr ∧ ∀ j, j < 512 → getW b (f * 4096 + 8 * j) 8 = wordO ((t0 (512 * i + j)).map ptrP)
  el : ∀ q f, q < 262144 → t0 q = some f → f < fr ∧ (t1 (q / 512)).isSome = true ∧ ∀ k, k < 512 → getW b (f * 4096 + 8 * k) 8 = wordO (lf (512 * q + k))
  lk : ∀ v p, v < 134217728 → lf v = some p → (t0 (v / 512)).isSome = true ∧ p.Ok ∧ rightP8 p = true ∧ leafB p = true
theorem idx2 (va : Nat) : idx va 2 = vpn va / 262144 := by unfold idx vpn; simp only [Nat.reducePow, Nat.reduceMul, Nat.reduceAdd]; omega
theorem idx1 (va : Nat) : idx va 1 = vpn va / 512 % 512 := by unfold idx vpn; simp only [Nat.reducePow, Nat.reduceMul, Nat.reduceAdd]; omega
theorem idx0 (va : Nat) : idx va 0 = vpn va % 512 := by unfold idx vpn; simp only [Nat.reducePow, Nat.reduceMul, Nat.reduceAdd]; omega
theorem vpn_lt (va : Nat) : vpn va < 134217728 := Nat.mod_lt _ (by omega)
theorem ptr_ok {f : Nat} (h : f < 2 ^ 44) : (ptrP f).Ok := ⟨by show (0 : Int) ≤ 0; omega, by show (0 : Int) < 4; omega, h⟩
theorem entry_at {b : By} {fr a : Nat} {p : Pte} (ha : a / 4096 < fr) (hw : getW b a 8 = pteW p) (hp : p.Ok) (hr : rightP8 p = true) : entryF b fr a = (p, 0) := by
  unfold entryF
  rw [if_neg (by omega), hw, pteG_W hp, pteOk_W, hr]
  rfl
theorem entry_no {b : By} {fr a : Nat} (ha : a / 4096 < fr) (hw : getW b a 8 = 0) : entryF b fr a = (Pte.zero, 51) := by
  unfold entryF
  rw [if_neg (by omega), hw]
  rfl
theorem pos_div {f i : Nat} (h : i < 512) : (f * 4096 + 8 * i) / 4096 = f := by omega
/-- Where a page's entry stands. -/
def leafPos (t0 : Nat → Option Nat) (v : Nat) : Nat := (t0 (v / 512)).getD 0 * 4096 + 8 * (v % 512)
theorem find_tab {b : By} {fr root : Nat} {t1 t0 : Nat → Option Nat} {lf : Nat → Option Pte} (h : TabOk b fr root t1 t0 lf) (hf : fr ≤ 1048576) {va : Nat} (hc : canonB va = true) :
    findF b fr root va = match lf (vpn va) with
      | some p => (⟨p, 0, leafPos t0 (vpn va)⟩, 0)
      | none => (Leaf.zero, 51) := by
  have hv := vpn_lt va
  obtain ⟨v, hvv⟩ : ∃ v, vpn va = v := ⟨_, rfl⟩
  have i2 := idx2 va
  have i1 := idx1 va
  have i0 := idx0 va
  rw [hvv] at hv i2 i1 i0 ⊢
  have nolf : (t0 (v / 512)) = none → lf v = none := fun hn => by
    cases hl : lf v with
    | none => rfl
    | some p => have := (h.lk v p hv hl).1; rw [hn] at this; cases this
  have q2 : v / 262144 < 512 := by omega
  have q1 : v / 512 % 512 < 512 := by omega
  have q0 : v % 512 < 512 := by omega
  have hr := h.rt
  unfold findF
  rw [if_pos hc]
  unfold walkF
  simp only [i2]
  have e1 := h.e1 (v / 262144) q2
  cases ht1 : t1 (v / 262144) with
  | none =>
    rw [ht1] at e1
    rw [entry_no (by rw [pos_div q2]; exact hr) e1]
    have : t0 (v / 512) = none := by
      cases ht0 : t0 (v / 512) with
      | none => rfl
      | some f =>
        have := (h.el (v / 512) f (by omega) ht0).2.1
        rw [show v / 512 / 512 = v / 262144 by omega, ht1] at this
        cases this
    rw [nolf this]
    rfl
  | some f1 =>
    rw [ht1] at e1
    obtain ⟨hf1, e0⟩ := h.e0 _ f1 q2 ht1
    rw [entry_at (p := ptrP f1) (by rw [pos_div q2]; exact hr) e1 (ptr_ok (by omega)) rfl]
    have w1 : ((ptrP f1).ppn) = f1 := rfl
    simp only [show leafB (ptrP f1) = false from rfl, show leadsB (ptrP f1) 2 = true from rfl, w1]
    simp only [ne_eq, not_true_eq_false, if_false, Bool.false_and, Bool.not_true, Bool.or_self, Bool.false_eq_true]
    unfold walkF
    simp only [i1]
    have e0' := e0 (v / 512 % 512) q1
    rw [show 512 * (v / 262144) + v / 512 % 512 = v / 512 by omega] at e0'
    cases ht0 : t0 (v / 512) with
    | none =>
      rw [ht0] at e0'
      rw [entry_no (by rw [pos_div q1]; exact hf1) e0', nolf ht0]
      rfl
    | some f0 =>
      rw [ht0] at e0'
      obtain ⟨hf0, -, el⟩ := h.el _ f0 (by omega) ht0
      rw [entry_at (p := ptrP f0) (by rw [pos_div q1]; exact hf1) e0' (ptr_ok (by omega)) rfl]
      have w0 : ((ptrP f0).ppn) = f0 := rfl
      simp only [show leafB (ptrP f0) = false from rfl, show leadsB (ptrP f0) 1 = true from rfl, w0]
      simp only [ne_eq, not_true_eq_false, if_false, Bool.false_and, Bool.not_true, Bool.or_self, Bool.false_eq_true]
      unfold walkF
      simp only [i0]
      have el' := el (v % 512) q0
      rw [show 512 * (v / 512) + v % 512 = v by omega] at el'
      cases hl : lf v with
      | none =>
        rw [hl] at el'
        rw [entry_no (by rw [pos_div q0]; exact hf0) el']
        rfl
      | some p =>
        rw [hl] at el'
        obtain ⟨-, hp, hr8, hlf⟩ := h.lk v p hv hl
        rw [entry_at (p := p) (by rw [pos_div q0]; exact hf0) el' hp hr8]
        have hev : evenB p.ppn 0 = true := decide_eq_true (by simp [Nat.mod_one])
        simp only [hlf, hev]
        simp only [leafPos, ht0, Option.getD_some, ne_eq, not_true_eq_false, if_false, Bool.and_self, if_true]
        rfl
/-- Frames that hold tables. -/
def IsTab (root : Nat) (t1 t0 : Nat → Option Nat) (f : Nat) : Prop := f = root ∨ (∃ i, i < 512 ∧ t1 i = some f) ∨ ∃ q, q < 262144 ∧ t0 q = some f
/-- Tables are what they were, if no table's frame has changed. -/
theorem TabOk.other {b b' : By} {fr root : Nat} {t1 t0 : Nat → Option Nat} {lf : Nat → Option Pte} (h : TabOk b fr root t1 t0 lf) (hb : ∀ a, IsTab root t1 t0 (a / 4096) → b' a = b a) : TabOk b' fr root t1 t0 lf := by
  have key : ∀ f i, IsTab root t1 t0 f → i < 512 → getW b' (f * 4096 + 8 * i) 8 = getW b (f * 4096 + 8 * i) 8 := fun f i hf hi =>
    getW_congr 8 _ fun a h1 h2 => hb a (by rw [show a / 4096 = f by omega]; exact hf)
  refine ⟨h.rt, fun i hi => ?_, fun i f hi hf => ?_, fun q f hq hf => ?_, h.lk⟩
  · rw [key root i (.inl rfl) hi]; exact h.e1 i hi
  · obtain ⟨h1, h2⟩ := h.e0 i f hi hf
    exact ⟨h1, fun j hj => by rw [key f j (.inr (.inl ⟨i, hi, hf⟩)) hj]; exact h2 j hj⟩
  · obtain ⟨h1, h2, h3⟩ := h.el q f hq hf
    exact ⟨h1, h2, fun k hk => by rw [key f k (.inr (.inr ⟨q, hq, hf⟩)) hk]; exact h3 k hk⟩
end Go.Proofs.YtdjaeoeejcmhdaaGreatDoor
set_option linter.unusedVariables false
set_option linter.unusedSimpArgs false
namespace Go.Proofs.YtdjaeoeejcmhdaaGreatDoor
open Go.RowKit Go.RR
set_option maxRecDepth 100000 in
theorem at_any (f va : Nat) (l : Int) (w : World) (hf : f < 17592186044416) (hv : va < 18446744073709551616) (hl : levelB l = true) :
    Calls Tryz.prog 121 #[.int .u64 f, .int .u64 va, .int .i64 l] w (RetW (.int .u64 ((f * 4096 + 8 * idx va l.toNat : Nat) : Int)) fun w' => w' = w) := by
  have HI := Lib.hid (index_any va l w hv hl)
  have hix9 : idx va l.toNat < 512 := Nat.mod_lt _ (by omega)
  obtain ⟨ix, hix⟩ : ∃ ix, idx va l.toNat = ix := ⟨_, rfl⟩
  rw [hix] at HI hix9 ⊢
  have HA : Hid (((f * 4096 + 8 * ix : Nat) : Int) = (f : Int) * 4096 + 8 * (ix : Int)) := Lib.hid (by omega)
  rw [HA.out]
  have h1 : (f : Int) < 17592186044416 := by omega
  have h2 : (ix : Int) < 512 := by omega
  have c1 : (f : Int) * 4096 % 18446744073709551616 = (f : Int) * 4096 := by omega
  have c2 : 8 * (ix : Int) % 18446744073709551616 = 8 * (ix : Int) := by omega
  have c3 : ((f : Int) * 4096 + 8 * (ix : Int)) % 18446744073709551616 = (f : Int) * 4096 + 8 * (ix : Int) := by omega
  clear hix
  go_enter Tryz.func121, Tryz.ntmps121
  go_wp2_with fail
  with_reducible refine HI.out.mono ?_
  rintro e w1 ⟨rfl, hw1⟩
  subst hw1
  go_wp2_with fail
  go_ret
  exact ⟨by first | rfl | omega, rfl⟩
set_option maxRecDepth 100000 in
theorem root_any {SM : Nat → Prop} {w : World} {mb fr sb mp tb root : Nat} {t : Tst} (h : TabAt w SM mb fr sb mp tb root t) :
    Calls Tryz.prog 40 #[.pointer (some ⟨tb, 0, none⟩)] w (RetW (.int .i64 root) fun w' => w' = w) := by
  have e2 := h.tab.cell' (i := 2) (v := .int .i64 root) rfl
  have hl := h.tab.lt
  clear h
  go_enter Tryz.func40, Tryz.ntmps40
  go_wp2_with fail
  go_ret
  exact ⟨rfl, rfl⟩
set_option maxRecDepth 100000 in
theorem tabNew_any {SM : Nat → Prop} {w : World} {mb fr sb mp n : Nat} {b : By} (hm : MemAt w SM mb b fr) (hk : StkAt w sb mp ⟨0, 0, n, []⟩) (n1 : ¬ SM sb) (n2 : ¬ SM mp) (hn : n ≤ fr) (hf : fr ≤ 1048576) (h0 : 0 < n) :
    Calls Tryz.prog 36 #[.pointer (some ⟨mb, 0, none⟩), .pointer (some ⟨sb, 0, none⟩)] w (RetW (.tuple #[.pointer (some ⟨w.heap.size, 0, none⟩), .int .i64 0]) fun w' =>
      TabAt w' (fun k => (SM k ∧ k < w.heap.size) ∨ w.heap.size + 1 ≤ k) mb fr sb mp w.heap.size 0 ⟨zeroPg b 0, ⟨0, 1, n, [0]⟩, 1⟩ ∧ Chg (fun k => SM k ∨ k = sb ∨ k = mp) w w') := by
  have HT : Hid (TabAt (w.alloc (.cells #[.pointer (some ⟨mb, 0, none⟩), .pointer (some ⟨sb, 0, none⟩), .int .i64 0, .int .i64 0] 166)) (fun k => SM k ∧ k < w.heap.size) mb fr sb mp w.heap.size 0 ⟨b, ⟨0, 0, n, []⟩, 0⟩) := Lib.hid (by
    have ca := (Chg.refl NoB w).alloc (.cells #[.pointer (some ⟨mb, 0, none⟩), .pointer (some ⟨sb, 0, none⟩), .int .i64 0, .int .i64 0] 166)
    exact ⟨(hm.mono (S' := fun k => SM k ∧ k < w.heap.size) fun k hk h => ⟨h, hk⟩).chg0 ca, hk.chg ca id id, Blk.new w _ _, fun e => n1 e.1, fun e => n2 e.1, fun e => Nat.lt_irrefl _ e.2,
      fun e => by have := hk.blk.lt; omega, fun e => by have := hk.map.lt; omega, ⟨Nat.zero_le _, hn⟩, Nat.le_refl _, hf⟩)
  have HK := Lib.hid (take_some HT.out h0)
  rw [tabTake_some (t := ⟨b, ⟨0, 0, n, []⟩, 0⟩) h0] at HK
  have HR : Hid (∀ w1, TabAt w1 (Grow (fun k => SM k ∧ k < w.heap.size) (w.alloc (.cells #[.pointer (some ⟨mb, 0, none⟩), .pointer (some ⟨sb, 0, none⟩), .int .i64 0, .int .i64 0] 166))) mb fr sb mp w.heap.size 0 ⟨zeroPg b 0, ⟨0, 1, n, [0]⟩, 1⟩ →
      Chg (TS (fun k => SM k ∧ k < w.heap.size) sb mp w.heap.size) (w.alloc (.cells #[.pointer (some ⟨mb, 0, none⟩), .pointer (some ⟨sb, 0, none⟩), .int .i64 0, .int .i64 0] 166)) w1 →
      TabAt (w1.setCell ⟨w.heap.size, 2, none⟩ (.int .i64 0)) (fun k => (SM k ∧ k < w.heap.size) ∨ w.heap.size + 1 ≤ k) mb fr sb mp w.heap.size 0 ⟨zeroPg b 0, ⟨0, 1, n, [0]⟩, 1⟩ ∧ Chg (fun k => SM k ∨ k = sb ∨ k = mp) w (w1.setCell ⟨w.heap.size, 2, none⟩ (.int .i64 0))) := Lib.hid fun w1 t1 c1 => by
    have hz : (w.alloc (.cells #[.pointer (some ⟨mb, 0, none⟩), .pointer (some ⟨sb, 0, none⟩), .int .i64 0, .int .i64 0] 166)).heap.size = w.heap.size + 1 := by simp
    have c3 : Chg (fun k => k = w.heap.size) w1 (w1.setCell ⟨w.heap.size, 2, none⟩ (.int .i64 0)) := (Chg.refl (fun k => k = w.heap.size) w1).setCell (.inl rfl) _
    have t1' := t1.mono (SM' := fun k => (SM k ∧ k < w.heap.size) ∨ w.heap.size + 1 ≤ k) fun k _ => by unfold Grow; rw [hz]
    refine ⟨⟨t1'.mem.chg c3 fun k hk e => ?_, t1'.stk.chg c3 (fun e => t1'.n4 e.symm) (fun e => t1'.n5 e.symm), t1'.tab.set 2 _, t1'.n1, t1'.n2, t1'.n3, t1'.n4, t1'.n5, t1'.ok, t1'.us, t1'.fr⟩, ?_⟩
    · exact t1'.n3 (e ▸ hk)
    · refine ((((Chg.refl (fun k => SM k ∨ k = sb ∨ k = mp) w).alloc _).trans c1 fun k hk e => ?_)).trans c3 fun k hk e => ?_
      · rcases e with e | e | e | e
        · exact .inl e.1
        · exact .inr (.inl e)
        · exact .inr (.inr e)
        · omega
      · have e : k = w.heap.size := e
        omega
  clear hm hk n1 n2 hn hf h0 HT
  go_enter Tryz.func36, Tryz.ntmps36
  go_wp2_with fail
  with_reducible refine HK.out.mono ?_
  rintro e w1 ⟨rfl, t1, c1⟩
  have HX := Lib.hid (HR.out _ t1 c1)
  have e2 := t1.tab.cell' (i := 2) (v := .int .i64 0) rfl
  have hl := t1.tab.lt
  have hz := t1.tab.frozen 2
  clear t1 c1
  go_wp2_with fail
  go_ret2
  exact ⟨rfl, HX.out⟩
theorem TabAt.word_lt {SM : Nat → Prop} {w : World} {mb fr sb mp tb root : Nat} {t : Tst} (h : TabAt w SM mb fr sb mp tb root t) (a : Nat) : getW t.b a 8 < 18446744073709551616 := by
  obtain ⟨_, _, _, _, _, _, _, h6⟩ := h.mem
  exact getW_lt h6.ok 8 a
theorem load8 {SM : Nat → Prop} {w : World} {mb fr : Nat} {b : By} (hm : MemAt w SM mb b fr) (a : Nat) (ha : a / 4096 < fr) (h8 : a % 8 = 0) (hf : fr ≤ 1048576) :
    Calls Tryz.prog 64 #[.pointer (some ⟨mb, 0, none⟩), .int .u64 a, .int .i64 8] w (RetW (.tuple #[.int .u64 (getW b a 8), .int .i64 0]) fun w' => w' = w) := by
  have hal : alignedB a (8 : Nat) = true := by unfold alignedB; rw [show sizeB ((8 : Nat) : Int) = true from rfl]; exact decide_eq_true h8
  have := Load_any hm a 8 (by omega) hf
  rw [check_ok hal ha, if_pos rfl] at this
  exact this
theorem store8 {SM : Nat → Prop} {w : World} {mb fr : Nat} {b : By} (hm : MemAt w SM mb b fr) (a v : Nat) (ha : a / 4096 < fr) (h8 : a % 8 = 0) (hf : fr ≤ 1048576) (hv : v < 18446744073709551616) :
    Calls Tryz.prog 23 #[.pointer (some ⟨mb, 0, none⟩), .int .u64 a, .int .i64 8, .int .u64 v] w (RetW (.int .i64 0) fun w' => MemAt w' (Grow SM w) mb (putW b a 8 v) fr ∧ Chg SM w w') :=
  Store_any hm a 8 v (by omega) hf hv (by unfold alignedB; rw [show sizeB ((8 : Nat) : Int) = true from rfl]; exact decide_eq_true h8) ha
set_option maxHeartbeats 2000000 in
set_option maxRecDepth 100000 in
theorem lead_any {SM : Nat → Prop} {w : World} {mb fr sb mp tb root : Nat} {t : Tst} (h : TabAt w SM mb fr sb mp tb root t) (pl : Nat) (hp : pl / 4096 < fr) (h8 : pl % 8 = 0) :
    Calls Tryz.prog 120 #[.pointer (some ⟨tb, 0, none⟩), .int .u64 pl] w (RetW (.tuple #[.int .u64 (leadF t pl).1.1, .int .i64 (leadF t pl).1.2]) fun w' => TabAt w' (Grow SM w) mb fr sb mp tb root (leadF t pl).2 ∧ Chg (TS SM sb mp tb) w w') := by
  have H := Lib.hid h
  have e0 := h.tab.cell' (i := 0) (v := .pointer (some ⟨mb, 0, none⟩)) rfl
  have hl := h.tab.lt
  obtain ⟨V, hV⟩ : ∃ V, getW t.b pl 8 = V := ⟨_, rfl⟩
  have hV64 : V < 18446744073709551616 := by rw [← hV]; exact h.word_lt pl
  have H0 := Lib.hid (load8 h.mem pl hp h8 h.fr)
  rw [hV] at H0
  obtain ⟨G, hG⟩ : ∃ G, pteG V = G := ⟨_, rfl⟩
  obtain ⟨ok, hok⟩ : ∃ ok, pteOkW V = ok := ⟨_, rfl⟩
  have H1 := Lib.hid (pteGet_any V hV64 w)
  rw [hG, hok] at H1
  have H2 := Lib.hid fun w' => pteLeaf_any G w'
  obtain ⟨lf, hlf⟩ : ∃ lf, leafB G = lf := ⟨_, rfl⟩
  rw [hlf] at H2
  have HL : Hid (leadF t pl = if V ≠ 0 then (if lf = true then ((0, 130), t) else ((G.ppn, 0), t)) else if (tabTake t).1.2 ≠ 0 then ((0, (tabTake t).1.2), (tabTake t).2) else (((tabTake t).1.1, 0), { (tabTake t).2 with b := putW (tabTake t).2.b pl 8 (pteW (ptrP (tabTake t).1.1)) })) := Lib.hid (by
    unfold leadF
    simp only [hV, hG, hlf])
  have HS : Hid (∀ w' t', TabAt w' (Grow SM w) mb fr sb mp tb root t' → ∀ v : Nat, v < 18446744073709551616 → Calls Tryz.prog 23 #[.pointer (some ⟨mb, 0, none⟩), .int .u64 pl, .int .i64 8, .int .u64 v] w' (RetW (.int .i64 0) fun w'' => MemAt w'' (Grow (Grow SM w) w') mb (putW t'.b pl 8 v) fr ∧ Chg (Grow SM w) w' w'')) := Lib.hid fun w' t' h' v hv => store8 h'.mem pl v hp h8 h.fr hv
  have HG : Hid (∀ w', TabAt w' SM mb fr sb mp tb root t → w.heap.size ≤ w'.heap.size → TabAt w' (Grow SM w) mb fr sb mp tb root t) := Lib.hid fun w' h' hs => by
    have := h.stk.blk.lt; have := h.stk.map.lt; have := h.tab.lt
    exact ⟨h'.mem.mono fun k _ e => .inl e, h'.stk, h'.tab, fun e => e.elim h.n1 (fun e => by omega), fun e => e.elim h.n2 (fun e => by omega), fun e => e.elim h.n3 (fun e => by omega), h.n4, h.n5, h.ok, h.us, h.fr⟩
  clear h hV hG hok hlf hp h8
  go_enter Tryz.func120, Tryz.ntmps120
  go_wp2_with fail
  with_reducible refine H0.out.mono ?_
  rintro e w1 ⟨rfl, hw1⟩
  subst hw1
  go_wp2_with fail
  with_reducible refine H1.out.mono ?_
  rintro e w2 ⟨rfl, C2⟩
  obtain ⟨gv, gr, gw, gx, gu, gg, ga, gd, grs, gp⟩ := G
  have HC := Lib.hid (C2.alloc (.cells #[.bool gv, .bool gr, .bool gw, .bool gx, .bool gu, .bool gg, .bool ga, .bool gd, .int .i64 grs, .int .u64 gp] 135))
  have HP := Lib.hid (Blk.new w2 #[.bool gv, .bool gr, .bool gw, .bool gx, .bool gu, .bool gg, .bool ga, .bool gd, .int .i64 grs, .int .u64 gp] 135)
  clear C2
  go_upto_region 3 with fail
  generalize w2.alloc (.cells #[.bool gv, .bool gr, .bool gw, .bool gx, .bool gu, .bool gg, .bool ga, .bool gd, .int .i64 grs, .int .u64 gp] 135) = w3 at *
  by_cases hV0 : V = 0
  · subst hV0
    have HL1 : Hid (leadF t pl = if (tabTake t).1.2 ≠ 0 then ((0, (tabTake t).1.2), (tabTake t).2) else (((tabTake t).1.1, 0), { (tabTake t).2 with b := putW (tabTake t).2.b pl 8 (pteW (ptrP (tabTake t).1.1)) })) := Lib.hid (by rw [HL.out, if_neg (by simp)])
    have H3 := Lib.hid (H.out.chg0 HC.out)
    have y0 := HP.out.cell' (i := 0) (v := .bool gv) rfl
    have y1 := HP.out.cell' (i := 1) (v := .bool gr) rfl
    have y2 := HP.out.cell' (i := 2) (v := .bool gw) rfl
    have y3 := HP.out.cell' (i := 3) (v := .bool gx) rfl
    have y4 := HP.out.cell' (i := 4) (v := .bool gu) rfl
    have y5 := HP.out.cell' (i := 5) (v := .bool gg) rfl
    have y6 := HP.out.cell' (i := 6) (v := .bool ga) rfl
    have y7 := HP.out.cell' (i := 7) (v := .bool gd) rfl
    have y8 := HP.out.cell' (i := 8) (v := .int .i64 grs) rfl
    have y9 := HP.out.cell' (i := 9) (v := .int .u64 gp) rfl
    have hpr := HP.out.lt
    go_upto_region 7 with fail
    clear y0 y1 y2 y3 y4 y5 y6 y7 y8 y9 hpr
    by_cases hlt : t.s.next < t.s.fin
    · have HK := Lib.hid (take_some H3.out hlt)
      rw [tabTake_some hlt] at HL1 HK
      have hnx : t.s.next < 1048576 := by have := H.out.ok.fin; have := H.out.fr; omega
      obtain ⟨nx, hn⟩ : ∃ nx, t.s.next = nx := ⟨_, rfl⟩
      rw [hn] at HL1 HK hnx
      have HPut := Lib.hid fun w' => ptePut_any (ptrP nx) (ptr_ok (by omega)) w'
      have HF : Hid (leadF t pl = ((nx, 0), { (⟨zeroPg t.b nx, { t.s with next := nx + 1, taken := addN t.s.taken nx }, t.used + 1⟩ : Tst) with b := putW (zeroPg t.b nx) pl 8 (pteW (ptrP nx)) })) := Lib.hid (by rw [HL1.out, if_neg (by simp)])
      clear hn hlt
      go_wp2_with fail
      with_reducible refine HK.out.mono ?_
      rintro e w4 ⟨rfl, T4, C4⟩
      have T4 : TabAt w4 (Grow SM w1) mb fr sb mp tb root _ := T4.grow3 H.out HC.out.size
      have HT4 := Lib.hid T4
      have f0 := T4.tab.cell' (i := 0) (v := .pointer (some ⟨mb, 0, none⟩)) rfl
      have hl4 := T4.tab.lt
      have HC4 := Lib.hid C4
      clear T4 C4 hl e0
      go_upto_region 10 with fail
      refine wp_region_take 9 [0, 1, 2, 3, 4, 5, 6, 7] [8] (fun w' => w'.cell? ⟨tb, 0, none⟩ = some (.pointer (some ⟨mb, 0, none⟩))) (by kernel_rfl) (by kernel_rfl) (fun _ _ _ _ _ h => h) (f0) ?_
      simp only [pickOps_nil, pickOps_cons, Option.getD_some, List.getElem?_toArray, List.getElem?_cons_zero, List.getElem?_cons_succ, List.cons_append, List.nil_append, List.drop_succ_cons, List.drop_zero]
      repeat
        refine wpTake_cons' rfl ?_
        apply Exists.intro
        refine ⟨fun wS hS => ?_, ?_⟩
        · try dsimp only at hS
          obtain f0' := hS
          go_simp
          try rfl
        simp only [Act.put, List.setIfInBounds_toArray, List.set_cons_zero, List.set_cons_succ]
      refine wpTake_nil ?_
      refine wpForce_cons rfl (fun K hK => ?_)
      go_simp
      have cw : IntKind.u64.wrap ((nx : Nat) : Int) = nx := by show (nx : Int) % 18446744073709551616 = nx; omega
      rw [cw]
      refine (HPut.out _).mono ?_
      rintro e w5 ⟨rfl, C5'⟩
      have C5 := C5'.undrew
      have HT5 := Lib.hid (HT4.out.chg0 C5)
      have HC5 := Lib.hid C5
      have f0 := HT5.out.tab.cell' (i := 0) (v := .pointer (some ⟨mb, 0, none⟩)) rfl
      refine hK _ _ f0 ?_
      refine wpForce_nil ?_
      clear hK K C5 C5'
      have HSt := Lib.hid (HS.out _ _ HT5.out (pteW (ptrP nx)) (by have := pteW_lt (ptrP nx); omega))
      go_wp2_with fail
      with_reducible refine HSt.out.mono ?_
      rintro e w6 ⟨rfl, M6, C6⟩
      have HX : Hid (TabAt w6 (Grow SM w1) mb fr sb mp tb root { (⟨zeroPg t.b nx, { t.s with next := nx + 1, taken := addN t.s.taken nx }, t.used + 1⟩ : Tst) with b := putW (zeroPg t.b nx) pl 8 (pteW (ptrP nx)) } ∧ Chg (TS SM sb mp tb) w1 w6) := Lib.hid (by
        have c45 := HC4.out.trans HC5.out fun k _ e => e.elim
        have hs : w1.heap.size ≤ w5.heap.size := Nat.le_trans HC.out.size c45.size
        refine ⟨(HT5.out.store M6 C6).grow2 hs, ?_⟩
        exact ((HC.out.mono (S' := TS SM sb mp tb) fun _ _ e => e.elim).trans c45 fun k _ e => e).trans C6 fun k hk e => e.elim .inl fun e => by omega)
      clear M6 C6
      go_wp2_with fail
      go_ret2
      exact ⟨by rw [HF.out]; rfl, by rw [HF.out]; exact HX.out⟩
    · have HK := Lib.hid (take_none H3.out (by omega))
      rw [tabTake_none (by omega)] at HL1
      have HF : Hid (leadF t pl = ((0, 50), t)) := Lib.hid (by rw [HL1.out, if_pos (by simp)])
      clear hlt
      go_wp2_with fail
      with_reducible refine HK.out.mono ?_
      rintro e w4 ⟨rfl, T4, C4⟩
      have HX := Lib.hid (And.intro (HG.out w4 T4 (HC.out.step C4).size) ((HC.out.step C4).mono (S' := TS SM sb mp tb) fun _ _ h => h.elim))
      clear T4 C4
      go_wp2_with fail
      go_ret2
      exact ⟨by rw [HF.out]; rfl, by rw [HF.out]; exact HX.out⟩
  · have t1 : ((V : Int) == 0) = false := beq_eq_false_iff_ne.2 (by omega)
    have t2 : ((V : Int) != 0) = true := by rw [bne, t1]; rfl
    have HL1 : Hid (leadF t pl = if lf = true then ((0, 130), t) else ((gp, 0), t)) := Lib.hid (by rw [HL.out, if_pos hV0])
    have HX := Lib.hid fun w4 (c : Chg NoB w1 w4) => And.intro (HG.out w4 (H.out.chg0 c) c.size) (c.mono (S' := TS SM sb mp tb) fun _ _ h => h.elim)
    clear hV0
    have y0 := HP.out.cell' (i := 0) (v := .bool gv) rfl
    have y1 := HP.out.cell' (i := 1) (v := .bool gr) rfl
    have y2 := HP.out.cell' (i := 2) (v := .bool gw) rfl
    have y3 := HP.out.cell' (i := 3) (v := .bool gx) rfl
    have y4 := HP.out.cell' (i := 4) (v := .bool gu) rfl
    have y5 := HP.out.cell' (i := 5) (v := .bool gg) rfl
    have y6 := HP.out.cell' (i := 6) (v := .bool ga) rfl
    have y7 := HP.out.cell' (i := 7) (v := .bool gd) rfl
    have y8 := HP.out.cell' (i := 8) (v := .int .i64 grs) rfl
    have y9 := HP.out.cell' (i := 9) (v := .int .u64 gp) rfl
    have hpr := HP.out.lt
    go_wp2_with fail
    with_reducible refine (H2.out _).mono ?_
    rintro e w4 ⟨rfl, C4⟩
    have HC4 := Lib.hid (HC.out.step C4)
    have HP := Lib.hid (C4.blk0 HP.out)
    clear C4 y0 y1 y2 y3 y4 y5 y6 y7 y8 y9 hpr
    have y0 := HP.out.cell' (i := 0) (v := .bool gv) rfl
    have y1 := HP.out.cell' (i := 1) (v := .bool gr) rfl
    have y2 := HP.out.cell' (i := 2) (v := .bool gw) rfl
    have y3 := HP.out.cell' (i := 3) (v := .bool gx) rfl
    have y4 := HP.out.cell' (i := 4) (v := .bool gu) rfl
    have y5 := HP.out.cell' (i := 5) (v := .bool gg) rfl
    have y6 := HP.out.cell' (i := 6) (v := .bool ga) rfl
    have y7 := HP.out.cell' (i := 7) (v := .bool gd) rfl
    have y8 := HP.out.cell' (i := 8) (v := .int .i64 grs) rfl
    have y9 := HP.out.cell' (i := 9) (v := .int .u64 gp) rfl
    have hpr := HP.out.lt
    cases lf
    · go_wp2_with fail
      go_ret2
      exact ⟨by rw [HL1.out]; rfl, by rw [HL1.out]; exact HX.out _ HC4.out⟩
    · go_wp2_with fail
      go_ret2
      exact ⟨by rw [HL1.out]; rfl, by rw [HL1.out]; exact HX.out _ HC4.out⟩
end Go.Proofs.YtdjaeoeejcmhdaaGreatDoor
