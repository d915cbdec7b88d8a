/- The audit: clusters at rest: what lies where, what is read of them. No condition. The audit: a new cluster. No condition. -/
import Derived.Test.YtleilfkcjollaaaGreatHg
set_option linter.unusedVariables false
set_option linter.unusedSimpArgs false
namespace Go.Proofs.YtleilfkcjollaaaGreat
open Go.RowKit Go.RR
/-- Where a cluster lies: its block; its nodes, their spaces, their homes. -/
structure Cpl where
  cb : Nat
  nb : Nat → Nat
  pb : Nat → Nat
  hb : Nat → Nat
def Cpl.row (P : Cpl) (n : Nat) : List Value := (List.range n).map fun i => .pointer (some ⟨P.nb i, 0, none⟩)
theorem Cpl.row_get (P : Cpl) {n i : Nat} (h : i < n) : (P.row n)[i]? = some (.pointer (some ⟨P.nb i, 0, none⟩)) := by
  unfold Cpl.row
  rw [List.getElem?_map, List.getElem?_range h]
  rfl
def clC (v bag : Value) : Array Value := #[v, .int .i64 2, bag, .int .i64 0, .int .i64 0, .int .i64 0, .slice none 0 0, .slice none 0 0]
/-- A plain space as nodes at rest have it. -/
structure SpOk (s : Spc) : Prop where
  inv : ∃ t1 t0, SpInv s t1 t0
  shape : s.shape = ⟨1, 1, 2⟩
  tz : ∀ l ∈ s.u.tlb, ∀ e ∈ l, e = Way.zero
  shl : s.shared.length ≤ 2
/-- A cluster at rest, m of its n nodes laid: F tells whose a block is: 0 the cluster's own, 3i+1 the i-th home's, 3i+2 the i-th space's, 3i+3 the i-th node's. -/
structure CL (w : World) (F : Nat → Nat → Prop) (P : Cpl) (m n : Nat) (s : Nat → Spc) : Prop where
  bd : ∀ a k, F a k → k < w.heap.size
  dj : ∀ a b k, F a k → F b k → a = b
  f0 : F 0 P.cb
  cl : ∃ v bag, Blk w P.cb (clC v bag) 105 ∧ Own w (F 0) 43 1 v m (P.row m)
  nd : ∀ i, i < m → ∃ kb, NdAt w (F (3 * i + 3)) (P.nb i) (P.pb i) (P.hb i) kb n i
  sp : ∀ i, i < m → ∃ L, SpAt w L (s i) ∧ L.pb = P.pb i ∧ ∀ k, L.All k → F (3 * i + 2) k
  hm : ∀ i, i < m → ∃ mb ps, HmAt w ⟨P.hb i, mb, P.pb i, i, n, 1, 1, 2⟩ ps ∧ F (3 * i + 1) (P.hb i) ∧ F (3 * i + 1) mb ∧ ∀ p ∈ ps, F (3 * i + 1) p.2.1 ∧ F (3 * i + 1) p.2.2
  ok : ∀ i, i < m → SpOk (s i)
/-- The blocks of a cluster. -/
def InF (F : Nat → Nat → Prop) (k : Nat) : Prop := ∃ a, F a k
theorem CL.chg {w w' : World} {S : Nat → Prop} {F : Nat → Nat → Prop} {P : Cpl} {m n : Nat} {s : Nat → Spc} (h : CL w F P m n s) (c : Chg S w w') (hs : ∀ a k, F a k → ¬ S k) : CL w' F P m n s := by
  refine ⟨fun a k hk => Nat.lt_of_lt_of_le (h.bd a k hk) c.size, h.dj, h.f0, ?_, fun i hi => ?_, fun i hi => ?_, fun i hi => ?_, h.ok⟩
  · obtain ⟨v, bag, h1, h2⟩ := h.cl
    exact ⟨v, bag, c.blk h1 (hs _ _ h.f0), h2.chg c (hs 0)⟩
  · obtain ⟨kb, h1⟩ := h.nd i hi
    exact ⟨kb, h1.chg c (hs _)⟩
  · obtain ⟨L, h1, h2, h3⟩ := h.sp i hi
    exact ⟨L, h1.chg c fun k hk => hs _ _ (h3 k hk), h2, h3⟩
  · obtain ⟨mb, ps, h1, h2, h3, h4⟩ := h.hm i hi
    exact ⟨mb, ps, h1.chg c (hs _ _ h2) (hs _ _ h3) fun p hp => ⟨hs _ _ (h4 p hp).1, hs _ _ (h4 p hp).2⟩, h2, h3, h4⟩
theorem CL.chg0 {w w' : World} {F : Nat → Nat → Prop} {P : Cpl} {m n : Nat} {s : Nat → Spc} (h : CL w F P m n s) (c : Chg NoB w w') : CL w' F P m n s := h.chg c fun _ _ _ => id
/-- Footprints behind a call that changed what is object c's: new blocks are c's. -/
def grF (F : Nat → Nat → Prop) (c : Nat) (w w' : World) (a k : Nat) : Prop := F a k ∨ (a = c ∧ w.heap.size ≤ k ∧ k < w'.heap.size)
theorem grF_dj {w w' : World} {F : Nat → Nat → Prop} {c : Nat} (hb : ∀ a k, F a k → k < w.heap.size) (hd : ∀ a b k, F a k → F b k → a = b) : ∀ a b k, grF F c w w' a k → grF F c w w' b k → a = b := by
  rintro a b k (h1 | ⟨h1, h1', -⟩) (h2 | ⟨h2, h2', -⟩)
  · exact hd a b k h1 h2
  · have := hb a k h1; omega
  · have := hb b k h2; omega
  · omega
theorem grF_bd {w w' : World} {F : Nat → Nat → Prop} {c : Nat} (hb : ∀ a k, F a k → k < w.heap.size) (hz : w.heap.size ≤ w'.heap.size) : ∀ a k, grF F c w w' a k → k < w'.heap.size := by
  rintro a k (h1 | ⟨-, -, h1⟩)
  · have := hb a k h1; omega
  · exact h1
/-- A home of a cluster has been asked. -/
theorem CL.home {w w' : World} {F : Nat → Nat → Prop} {P : Cpl} {m n : Nat} {s : Nat → Spc} (h : CL w F P m n s) {i : Nat} (hi : i < m) {mb : Nat} {ps ps' : List (Int × Nat × Nat)} (hf : F (3 * i + 1) (P.hb i) ∧ F (3 * i + 1) mb ∧ ∀ p ∈ ps, F (3 * i + 1) p.2.1 ∧ F (3 * i + 1) p.2.2)
    (hh : HmAt w' ⟨P.hb i, mb, P.pb i, i, n, 1, 1, 2⟩ ps') (he : PsExt w ps ps') (c : Chg (· = mb) w w') : CL w' (grF F (3 * i + 1) w w') P m n s ∧ Chg (InF F) w w' := by
  have hmono : ∀ a k, F a k → grF F (3 * i + 1) w w' a k := fun a k hk => .inl hk
  have hne : ∀ a k, a ≠ 3 * i + 1 → F a k → ¬ k = mb := fun a k ha hk e => by
    subst e
    exact ha (h.dj _ _ _ hk hf.2.1)
  refine ⟨⟨grF_bd h.bd c.size, grF_dj h.bd h.dj, .inl h.f0, ?_, fun j hj => ?_, fun j hj => ?_, fun j hj => ?_, h.ok⟩, c.mono fun b _ e => ⟨3 * i + 1, e ▸ hf.2.1⟩⟩
  · obtain ⟨v, bag, h1, h2⟩ := h.cl
    exact ⟨v, bag, c.blk h1 (hne 0 _ (by omega) h.f0), (h2.chg c (fun k => hne 0 k (by omega))).mono (hmono 0)⟩
  · obtain ⟨kb, h1⟩ := h.nd j hj
    exact ⟨kb, (h1.chg c (fun k => hne _ k (by omega))).mono fun k _ => hmono _ k⟩
  · obtain ⟨L, h1, h2, h3⟩ := h.sp j hj
    exact ⟨L, h1.chg c fun k hk => hne _ k (by omega) (h3 k hk), h2, fun k hk => .inl (h3 k hk)⟩
  · by_cases e : j = i
    · subst e
      refine ⟨mb, ps', hh, .inl hf.1, .inl hf.2.1, fun p hp => ?_⟩
      have hp2 := hh.page p hp
      have l1 := hp2.blk.lt
      have l2 := hp2.ring.lt
      rcases he p hp with h1 | h1
      · exact ⟨.inl (hf.2.2 p h1).1, .inl (hf.2.2 p h1).2⟩
      · exact ⟨.inr ⟨rfl, h1.1, l1⟩, .inr ⟨rfl, h1.2, l2⟩⟩
    · obtain ⟨mb', ps2, h1, h2, h3, h4⟩ := h.hm j hj
      have hx : ∀ k, F (3 * j + 1) k → ¬ k = mb := fun k hk => hne _ k (by omega) hk
      exact ⟨mb', ps2, h1.chg c (hx _ h2) (hx _ h3) fun p hp => ⟨hx _ (h4 p hp).1, hx _ (h4 p hp).2⟩, .inl h2, .inl h3, fun p hp => ⟨.inl (h4 p hp).1, .inl (h4 p hp).2⟩⟩
/-- A space of a cluster has been changed. -/
theorem CL.space {w w' : World} {F : Nat → Nat → Prop} {P : Cpl} {m n : Nat} {s : Nat → Spc} (h : CL w F P m n s) {i : Nat} (hi : i < m) {L L' : Pl} {s' : Spc} (hpb : L.pb = P.pb i) (hf : ∀ k, L.All k → F (3 * i + 2) k)
    (hs : SpAt w' L' s') (he : Ext L L' w) (c : Chg L.All w w') (ho : SpOk s') : CL w' (grF F (3 * i + 2) w w') P m n (fun j => if j = i then s' else s j) ∧ Chg (InF F) w w' := by
  have hmono : ∀ a k, F a k → grF F (3 * i + 2) w w' a k := fun a k hk => .inl hk
  have hne : ∀ a k, a ≠ 3 * i + 2 → F a k → ¬ L.All k := fun a k ha hk e => ha (h.dj _ _ _ hk (hf k e))
  refine ⟨⟨grF_bd h.bd c.size, grF_dj h.bd h.dj, .inl h.f0, ?_, fun j hj => ?_, fun j hj => ?_, fun j hj => ?_, fun j hj => ?_⟩, c.mono fun b _ e => ⟨3 * i + 2, hf b e⟩⟩
  · obtain ⟨v, bag, h1, h2⟩ := h.cl
    exact ⟨v, bag, c.blk h1 (hne 0 _ (by omega) h.f0), (h2.chg c (fun k => hne 0 k (by omega))).mono (hmono 0)⟩
  · obtain ⟨kb, h1⟩ := h.nd j hj
    exact ⟨kb, (h1.chg c (fun k => hne _ k (by omega))).mono fun k _ => hmono _ k⟩
  · by_cases e : j = i
    · subst e
      rw [if_pos rfl]
      exact ⟨L', hs, he.1.trans hpb, fun k hk => (he.2.2 k hk).elim (fun e => .inl (hf k e)) fun e => .inr ⟨rfl, e, hs.bdd k hk⟩⟩
    · rw [if_neg e]
      obtain ⟨L2, h1, h2, h3⟩ := h.sp j hj
      exact ⟨L2, h1.chg c fun k hk => hne _ k (by omega) (h3 k hk), h2, fun k hk => .inl (h3 k hk)⟩
  · obtain ⟨mb', ps2, h1, h2, h3, h4⟩ := h.hm j hj
    have hx : ∀ k, F (3 * j + 1) k → ¬ L.All k := fun k hk => hne _ k (by omega) hk
    exact ⟨mb', ps2, h1.chg c (hx _ h2) (hx _ h3) fun p hp => ⟨hx _ (h4 p hp).1, hx _ (h4 p hp).2⟩, .inl h2, .inl h3, fun p hp => ⟨.inl (h4 p hp).1, .inl (h4 p hp).2⟩⟩
  · by_cases e : j = i
    · rw [if_pos e]; exact ho
    · rw [if_neg e]; exact h.ok j hj
/-- Blocks that aren't a cluster's stay none of it. -/
def Ext2 (F F' : Nat → Nat → Prop) (w : World) : Prop := ∀ a k, F' a k → F a k ∨ w.heap.size ≤ k
theorem Ext2.gr (F : Nat → Nat → Prop) (c : Nat) (w w' : World) : Ext2 F (grF F c w w') w := fun a k h => h.elim .inl fun h => .inr h.2.1
theorem Ext2.refl (F : Nat → Nat → Prop) (w : World) : Ext2 F F w := fun a k => .inl
theorem Ext2.trans {F F' F'' : Nat → Nat → Prop} {w w' : World} (h : Ext2 F F' w) (k : Ext2 F' F'' w') (hz : w.heap.size ≤ w'.heap.size) : Ext2 F F'' w := fun a x hx => (k a x hx).elim (h a x) fun e => .inr (Nat.le_trans hz e)
theorem Ext2.chg {F F' : Nat → Nat → Prop} {w w1 w2 : World} (h : Ext2 F F' w) (c1 : Chg (InF F) w w1) (c2 : Chg (InF F') w1 w2) : Chg (InF F) w w2 := c1.trans c2 fun k hk ⟨a, e⟩ => (h a k e).elim (fun e => ⟨a, e⟩) fun e => by omega
set_option maxRecDepth 100000 in
theorem cNodes_any {w : World} {F : Nat → Nat → Prop} {P : Cpl} {m n : Nat} {s : Nat → Spc} (h : CL w F P m n s) : Calls Tryz.prog 22 #[.pointer (some ⟨P.cb, 0, none⟩)] w (RetW (.int .i64 m) fun w' => w' = w) := by
  obtain ⟨v, bag, h1, h2⟩ := h.cl
  obtain ⟨p, c, rfl⟩ := h2.form
  have f0 := h1.cell' (i := 0) (v := .slice p m c) rfl
  have fl := h1.lt
  clear h h1 h2
  go_enter Tryz.func22, Tryz.ntmps22
  go_wp2_with fail
  go_ret
  exact ⟨rfl, rfl⟩
set_option maxRecDepth 100000 in
theorem cNode_any {w : World} {F : Nat → Nat → Prop} {P : Cpl} {m n : Nat} {s : Nat → Spc} (h : CL w F P m n s) (i : Nat) (hi : i < m) : Calls Tryz.prog 18 #[.pointer (some ⟨P.cb, 0, none⟩), .int .i64 i] w (RetW (.pointer (some ⟨P.nb i, 0, none⟩)) fun w' => w' = w) := by
  obtain ⟨v, bag, h1, h2⟩ := h.cl
  obtain ⟨g, off, c, rfl, -, hg, -, hc, -⟩ := h2.spot (by omega)
  have f0 := h1.cell' (i := 0) (v := .slice (some ⟨g, off, none⟩) m c) rfl
  have fl := h1.lt
  have fx := hc i _ (P.row_get hi)
  obtain ⟨nb, hnb⟩ : ∃ b, P.nb i = b := ⟨_, rfl⟩
  rw [hnb] at fx ⊢
  have t1 : decide ((m : Int) ≤ i) = false := decide_eq_false (by omega)
  have t2 : decide (m ≤ i) = false := decide_eq_false (by omega)
  clear h h1 h2 hc hnb
  go_enter Tryz.func18, Tryz.ntmps18
  go_wp2_with fail
  go_ret
  exact ⟨rfl, rfl⟩
set_option maxRecDepth 100000 in
theorem nSpace_any {w : World} {F : Nat → Nat → Prop} {P : Cpl} {m n : Nat} {s : Nat → Spc} (h : CL w F P m n s) (i : Nat) (hi : i < m) : Calls Tryz.prog 19 #[.pointer (some ⟨P.nb i, 0, none⟩)] w (RetW (.pointer (some ⟨P.pb i, 0, none⟩)) fun w' => w' = w) := by
  obtain ⟨kb, -, v, cs, h1, -⟩ := h.nd i hi
  have f0 := h1.cell' (i := 1) (v := .pointer (some ⟨P.pb i, 0, none⟩)) rfl
  have fl := h1.lt
  clear h h1
  go_enter Tryz.func19, Tryz.ntmps19
  go_wp2_with fail
  go_ret
  exact ⟨rfl, rfl⟩
set_option maxRecDepth 100000 in
theorem nHome_any {w : World} {F : Nat → Nat → Prop} {P : Cpl} {m n : Nat} {s : Nat → Spc} (h : CL w F P m n s) (i : Nat) (hi : i < m) : Calls Tryz.prog 23 #[.pointer (some ⟨P.nb i, 0, none⟩)] w (RetW (.pointer (some ⟨P.hb i, 0, none⟩)) fun w' => w' = w) := by
  obtain ⟨kb, -, v, cs, h1, -⟩ := h.nd i hi
  have f0 := h1.cell' (i := 2) (v := .pointer (some ⟨P.hb i, 0, none⟩)) rfl
  have fl := h1.lt
  clear h h1
  go_enter Tryz.func23, Tryz.ntmps23
  go_wp2_with fail
  go_ret
  exact ⟨rfl, rfl⟩
/-- A cluster behind a call. -/
def CL.Then (w : World) (F : Nat → Nat → Prop) (P : Cpl) (m n : Nat) (s : Nat → Spc) (w' : World) : Prop := ∃ F', CL w' F' P m n s ∧ Ext2 F F' w ∧ Chg (InF F) w w'
theorem CL.state {w : World} {F : Nat → Nat → Prop} {P : Cpl} {m n : Nat} {s : Nat → Spc} (h : CL w F P m n s) (i : Nat) (hi : i < m) (p : Int) (h0 : 0 ≤ p) (h2 : p < 2) (hn : 2 ≤ n) (hn2 : n ≤ 16) :
    Calls Tryz.prog 24 #[.pointer (some ⟨P.hb i, 0, none⟩), .int .i64 p] w (RetW (.agg (stC i (p % n))) fun w' => CL.Then w F P m n s w') := by
  obtain ⟨mb, ps, hh, hf⟩ := h.hm i hi
  refine (hState_any hh p h0 h2 (by show (2 : Int) ≤ n; omega) (by show (n : Int) ≤ 16; omega) (by show (2 : Int) ≤ 65536; omega)).mono ?_
  rintro e w' ⟨rfl, ⟨ps', hh', he⟩, c⟩
  obtain ⟨h1, c1⟩ := h.home hi hf hh' he c
  exact ⟨rfl, _, h1, Ext2.gr F _ w w', c1⟩
end Go.Proofs.YtleilfkcjollaaaGreat
set_option linter.unusedVariables false
set_option linter.unusedSimpArgs false
namespace Go.Proofs.YtleilfkcjollaaaGreat
open Go.RowKit Go.RR
def Cpl.put (P : Cpl) (i nb pb hb : Nat) : Cpl := ⟨P.cb, fun j => if j = i then nb else P.nb j, fun j => if j = i then pb else P.pb j, fun j => if j = i then hb else P.hb j⟩
theorem Cpl.row_put (P : Cpl) (i nb pb hb : Nat) : (P.put i nb pb hb).row (i + 1) = P.row i ++ [.pointer (some ⟨nb, 0, none⟩)] := by
  unfold Cpl.row
  rw [List.range_succ, List.map_append]
  congr 1
  · apply List.map_congr_left
    intro j hj
    have := List.mem_range.1 hj
    show Value.pointer (some ⟨if j = i then nb else P.nb j, 0, none⟩) = _
    rw [if_neg (by omega)]
  · show [Value.pointer (some ⟨if i = i then nb else P.nb i, 0, none⟩)] = _
    rw [if_pos rfl]
theorem sp0_ok : SpOk (ndSp 2 []) := by
  obtain ⟨-, -, -, -, -, t1, t0, I, -⟩ := nd_new 2 (.inr rfl) [] (fun x hx => by cases hx) (by decide)
  refine ⟨⟨t1, t0, I⟩, rfl, ?_, by decide⟩
  intro l hl e he
  have hl : l ∈ List.replicate 2 (List.replicate 2 Way.zero) := hl
  rw [(List.mem_replicate.1 hl).2] at he
  exact (List.mem_replicate.1 he).2
/-- Footprints with one more node. -/
def addF (F : Nat → Nat → Prop) (L : Pl) (i hb mb kb : Nat) (w w1 w6 : World) (a k : Nat) : Prop :=
  F a k ∨ (a = 3 * i + 2 ∧ L.All k) ∨ (a = 3 * i + 1 ∧ (k = hb ∨ k = mb)) ∨ (a = 3 * i + 3 ∧ (w.heap.size ≤ k ∧ ¬ L.All k ∧ k ≠ hb ∧ k ≠ mb ∧ k ≠ kb) ∧ k < w1.heap.size) ∨ (a = 0 ∧ w1.heap.size ≤ k ∧ k < w6.heap.size)
theorem CL.add {w w1 w5 : World} {F : Nat → Nat → Prop} {P : Cpl} {i n : Nat} {s : Nat → Spc} {v bag v' : Value} (h : CL w F P i n s) (hc : Blk w P.cb (clC v bag) 105) (hown : Own w (F 0) 43 1 v i (P.row i))
    {nb hb mb kb : Nat} {L : Pl} {s0 : Spc} (hlo : w.heap.size ≤ hb ∧ w.heap.size ≤ mb ∧ w.heap.size ≤ kb ∧ ∀ k, L.All k → w.heap.size ≤ k) (hno : ¬ L.All hb ∧ ¬ L.All mb ∧ ¬ L.All kb ∧ ¬ L.All nb)
    (hN : NdAt w1 (fun k => w.heap.size ≤ k ∧ ¬ L.All k ∧ k ≠ hb ∧ k ≠ mb ∧ k ≠ kb) nb L.pb hb kb n i) (hS : SpAt w1 L s0) (hH : HmAt w1 ⟨hb, mb, L.pb, i, n, 1, 1, 2⟩ []) (hO : SpOk s0) (c : Chg NoB w w1)
    (ho : Own w5 (fun k => v.ownBlock = some k ∨ k = (w1.alloc (.cells #[.pointer (some ⟨nb, 0, none⟩)] 43)).heap.size) 43 1 v' (i + 1) (P.row i ++ [.pointer (some ⟨nb, 0, none⟩)])) (hg : (w1.alloc (.cells #[.pointer (some ⟨nb, 0, none⟩)] 43)).grownBy w5 v.ownBlock) :
    Blk w5 P.cb (clC v bag) 105 ∧ CL (w5.setCell ⟨P.cb, 0, none⟩ v') (addF F L i hb mb kb w w1 w5) (P.put i nb L.pb hb) (i + 1) n (fun j => if j = i then s0 else s j) ∧ Chg (InF F) w (w5.setCell ⟨P.cb, 0, none⟩ v') := by
  have ca : Chg NoB w1 (w1.alloc (.cells #[.pointer (some ⟨nb, 0, none⟩)] 43)) := (Chg.refl NoB w1).alloc _
  have C5 : Chg (fun k => v.ownBlock = some k) (w1.alloc (.cells #[.pointer (some ⟨nb, 0, none⟩)] 43)) w5 := grown_chg hg fun k hk => hk
  have hvo : ∀ k, v.ownBlock = some k → F 0 k := fun k hk => (hown.ownBlock k hk).1
  have hvb : ∀ k, v.ownBlock = some k → k ≠ P.cb := fun k hk e => by
    obtain ⟨cur, hb'⟩ := own_blk hown hk
    rw [e] at hb'
    exact absurd (hb'.inj hc).2 (by decide)
  have hc5 := C5.blk (ca.blk0 (c.blk0 hc)) fun e => hvb _ e rfl
  have CN : Chg (fun k => k = P.cb) w5 (w5.setCell ⟨P.cb, 0, none⟩ v') := (Chg.refl (fun k => k = P.cb) w5).setCell (a := ⟨P.cb, 0, none⟩) (.inl rfl) _
  -- what has changed since w1: the row's block, the cluster's
  have C16 : Chg (fun k => F 0 k) w1 (w5.setCell ⟨P.cb, 0, none⟩ v') := ((ca.mono (S' := F 0) fun _ _ e => e.elim).trans C5 fun k _ e => hvo k e).trans CN fun k _ e => by have e : k = P.cb := e; rw [e]; exact h.f0
  have C06 : Chg (fun k => F 0 k) w (w5.setCell ⟨P.cb, 0, none⟩ v') := (c.mono (S' := F 0) fun _ _ e => e.elim).trans C16 fun k _ e => e
  have hz6 : (w5.setCell ⟨P.cb, 0, none⟩ v').heap.size = w5.heap.size := World.size_setCell ..
  have z1 := c.size
  have z5 : w1.heap.size ≤ w5.heap.size := Nat.le_trans ca.size C5.size
  have hb1 : hb < w1.heap.size := hH.blk.lt
  have mb1 : mb < w1.heap.size := hH.map.lt
  have hLb := hS.bdd
  have hnew : ∀ k, w.heap.size ≤ k → ¬ F 0 k := fun k hk e => by have := h.bd 0 k e; omega
  have hne : ∀ a k, a ≠ 0 → F a k → ¬ F 0 k := fun a k ha hk e => ha (h.dj _ _ _ hk e)
  refine ⟨hc5, ⟨?_, ?_, .inl h.f0, ?_, fun j hj => ?_, fun j hj => ?_, fun j hj => ?_, fun j hj => ?_⟩, C06.mono fun k _ e => ⟨0, e⟩⟩
  · rintro a k (e | ⟨-, e⟩ | ⟨-, e | e⟩ | ⟨-, -, e⟩ | ⟨-, -, e⟩)
    · have := h.bd a k e; omega
    · have := hLb k e; omega
    · omega
    · omega
    · omega
    · omega
  · rintro a b k (e | ⟨ea, e⟩ | ⟨ea, e⟩ | ⟨ea, e, e'⟩ | ⟨ea, e, e'⟩) (f | ⟨fa, f⟩ | ⟨fa, f⟩ | ⟨fa, f, f'⟩ | ⟨fa, f, f'⟩)
    · exact h.dj a b k e f
    · have := h.bd a k e; have := hlo.2.2.2 k f; omega
    · have := h.bd a k e; omega
    · have := h.bd a k e; omega
    · have := h.bd a k e; omega
    · have := h.bd b k f; have := hlo.2.2.2 k e; omega
    · omega
    · rcases f with rfl | rfl
      · exact absurd e hno.1
      · exact absurd e hno.2.1
    · exact absurd e f.2.1
    · have := hLb k e; omega
    · have := h.bd b k f; omega
    · rcases e with rfl | rfl
      · exact absurd f hno.1
      · exact absurd f hno.2.1
    · omega
    · omega
    · omega
    · have := h.bd b k f; omega
    · exact absurd f e.2.1
    · omega
    · omega
    · omega
    · have := h.bd b k f; omega
    · have := hLb k f; omega
    · omega
    · omega
    · omega
  · refine ⟨v', bag, hc5.set 0 v', ?_⟩
    rw [Cpl.row_put]
    refine (ho.chg CN fun k hk e => ?_).monoIn fun k hk hk' => ?_
    · have e : k = P.cb := e
      rcases hk with hk | hk
      · exact hvb k hk e
      · have := (c.blk0 hc).lt
        rw [World.size_alloc] at hk
        omega
    · rw [hz6] at hk
      rcases hk' with hk' | hk'
      · exact .inl (hvo k hk')
      · rw [World.size_alloc] at hk'
        exact .inr (.inr (.inr (.inr ⟨rfl, by omega, hk⟩)))
  · by_cases e : j = i
    · subst e
      refine ⟨kb, ?_⟩
      show NdAt _ _ (if j = j then nb else P.nb j) (if j = j then L.pb else P.pb j) (if j = j then hb else P.hb j) kb n j
      rw [if_pos rfl, if_pos rfl, if_pos rfl]
      exact (hN.mono fun k hk e => (⟨e, hk⟩ : (w.heap.size ≤ k ∧ ¬ L.All k ∧ k ≠ hb ∧ k ≠ mb ∧ k ≠ kb) ∧ k < w1.heap.size)).chg C16 (fun k hk e => hnew k hk.1.1 e) |>.mono fun k _ hk => .inr (.inr (.inr (.inl ⟨rfl, hk.1, hk.2⟩)))
    · obtain ⟨kb', h1⟩ := h.nd j (by omega)
      refine ⟨kb', ?_⟩
      show NdAt _ _ (if j = i then nb else P.nb j) (if j = i then L.pb else P.pb j) (if j = i then hb else P.hb j) kb' n j
      rw [if_neg e, if_neg e, if_neg e]
      exact (h1.chg C06 fun k hk e => hne _ k (by omega) hk e).mono fun k _ hk => .inl hk
  · by_cases e : j = i
    · subst e
      rw [if_pos rfl]
      refine ⟨L, hS.chg C16 fun k hk e => hnew k (hlo.2.2.2 k hk) e, ?_, fun k hk => .inr (.inl ⟨rfl, hk⟩)⟩
      show L.pb = if j = j then L.pb else P.pb j
      rw [if_pos rfl]
    · rw [if_neg e]
      obtain ⟨L2, h1, h2, h3⟩ := h.sp j (by omega)
      refine ⟨L2, h1.chg C06 fun k hk e => hne _ k (by omega) (h3 k hk) e, ?_, fun k hk => .inl (h3 k hk)⟩
      show L2.pb = if j = i then L.pb else P.pb j
      rw [if_neg e]
      exact h2
  · by_cases e : j = i
    · subst e
      refine ⟨mb, [], ?_, ?_, .inr (.inr (.inl ⟨rfl, .inr rfl⟩)), fun p hp => by cases hp⟩
      · show HmAt _ ⟨if j = j then hb else P.hb j, mb, if j = j then L.pb else P.pb j, j, n, 1, 1, 2⟩ []
        rw [if_pos rfl, if_pos rfl]
        exact hH.chg C16 (fun e => hnew _ hlo.1 e) (fun e => hnew _ hlo.2.1 e) fun p hp => by cases hp
      · show addF F L j hb mb kb w w1 w5 (3 * j + 1) (if j = j then hb else P.hb j)
        rw [if_pos rfl]
        exact .inr (.inr (.inl ⟨rfl, .inl rfl⟩))
    · obtain ⟨mb', ps2, h1, h2, h3, h4⟩ := h.hm j (by omega)
      have hx : ∀ k, F (3 * j + 1) k → ¬ F 0 k := fun k hk => hne _ k (by omega) hk
      refine ⟨mb', ps2, ?_, ?_, .inl h3, fun p hp => ⟨.inl (h4 p hp).1, .inl (h4 p hp).2⟩⟩
      · show HmAt _ ⟨if j = i then hb else P.hb j, mb', if j = i then L.pb else P.pb j, j, n, 1, 1, 2⟩ ps2
        rw [if_neg e, if_neg e]
        exact h1.chg C06 (hx _ h2) (hx _ h3) fun p hp => ⟨hx _ (h4 p hp).1, hx _ (h4 p hp).2⟩
      · show addF F L i hb mb kb w w1 w5 (3 * j + 1) (if j = i then hb else P.hb j)
        rw [if_neg e]
        exact .inl h2
  · by_cases e : j = i
    · rw [if_pos e]; exact hO
    · rw [if_neg e]; exact h.ok j (by omega)
theorem NODEPi : (Tryz.prog.info? 43).map (fun i => (i.zero, i.size, i.bytes)) = some (some (.pointer none), 1, 8) := by kernel_rfl
set_option maxHeartbeats 4000000 in
set_option maxRecDepth 100000 in
/-- A new cluster without programs. -/
theorem cNew_any {w : World} (n : Nat) (hn : 2 ≤ n) (hn2 : n ≤ 16) :
    Calls Tryz.prog 17 #[.agg (confC n 2), .slice none 0 0] w (RetV fun v w' => ∃ (P : Cpl) (F : Nat → Nat → Prop), v = .tuple #[.pointer (some ⟨P.cb, 0, none⟩), .int .i64 0] ∧ CL w' F P n n (fun _ => ndSp 2 []) ∧ (∀ a k, F a k → w.heap.size ≤ k) ∧ Chg NoB w w') := by
  have HR : Hid (∀ w', Calls Tryz.prog 49 #[.agg (confC n 2)] w' (RetW (.bool true) fun w'' => Chg NoB w' w'')) := Lib.hid fun w' => nright_any n 2 hn hn2 (by omega) w'
  have HNN : Hid (∀ i, i < n → ∀ w', Calls Tryz.prog 51 #[.int .i64 i, .agg #[.int .i64 n, .int .i64 1, .int .i64 2, .int .i64 2, .int .i64 2, .int .i64 2, .int .i64 2, .int .i64 3, .int .i64 12], .slice none 0 0] w' _) := Lib.hid fun i hi w' => ndNew_any (w := w') i n 2 (.inr rfl) hn hn2 hi (.slice none 0 0) [] (fun _ => False) (Sl.nil _ _ _) (fun x hx => by cases hx) (by decide) (fun k hk => hk.elim)
  have hB := Lib.hid (Blk.new w (confC n 2) 28)
  have hC := Lib.hid ((Chg.refl NoB w).alloc (.cells (confC n 2) 28))
  have HN2 := Lib.hid (And.intro hn hn2)
  clear hn
  go_enter Tryz.func17, Tryz.ntmps17
  go_upto_region 1 with fail
  generalize w.alloc (.cells (confC n 2) 28) = w0 at *
  unfold confC at hB HR
  obtain ⟨cf, hcf⟩ : ∃ b, w.heap.size = b := ⟨_, rfl⟩
  rw [hcf] at hB
  simp only [hcf]
  have HW := Lib.hid hcf
  have g := hB.out.ever
  have gl := hB.out.everL
  have c0 := Chg.refl NoB w0
  have t1 : decide ((n : Int) < 0) = false := decide_eq_false (by omega)
  clear hcf hB
  go_wp2_with fail
  with_reducible refine (HR.out _).mono ?_
  rintro e w1 ⟨rfl, C1⟩
  go_upto_region 3 with fail
  go_cut [6] (fun s6 wx => ∃ cb bag, s6 = .pointer (some ⟨cb, 0, none⟩) ∧ Blk wx cb (clC (.slice none 0 0) bag) 105 ∧ w1.heap.size ≤ cb ∧ Chg NoB w1 wx)
  case first =>
    have c1 := Chg.refl NoB w1
    have g' : ∀ w', Chg NoB w1 w' → ∀ i, w'.cell? ⟨cf, i, none⟩ = _ := fun w' c => g w' (C1.step c)
    have gl' : ∀ w', Chg NoB w1 w' → cf < w'.heap.size := fun w' c => gl w' (C1.step c)
    clear g gl c0
    go_region_held3 (fun w' => Chg NoB w1 w') ((repeat (first | with_reducible assumption | with_reducible apply Chg.drew | with_reducible apply Chg.drewN | with_reducible apply Chg.alloc))) (first | (go_at_call 50; (with_reducible refine (netNew_any _).mono ?_); rintro e w9 ⟨rfl, hC', hlt⟩; have c9 := Chg.step (by with_reducible assumption : Chg NoB w1 _) hC'))
    all_goals
      have HH := Lib.hid (And.intro (show Chg NoB w1 w9 by with_reducible assumption) (Chg.size (show Chg NoB w1 w9 by with_reducible assumption)))
      go_wp2_with fail
      go_meet
      exact ⟨_, _, rfl, Blk.new w9 _ _, HH.out.2, HH.out.1.alloc _⟩
  case rest =>
  obtain ⟨cb, bag, rfl, hCB, hlo, C2⟩ := hcut
  rename World => w2
  have HC2 := Lib.hid (C1.step C2)
  have HW2 := Lib.hid (hC.out.step (C1.step C2))
  have hz := HW2.out.size
  have hz1 := hC.out.size
  have hz2 := C1.size
  have HZ := Lib.hid (And.intro hz (And.intro hlo (And.intro hz1 hz2)))
  have g' : ∀ w', Chg NoB w0 w' → w'.cell? ⟨cf, 0, none⟩ = some (.int .i64 n) := fun w' c => g w' c 0
  have hCL : CL w2 (fun a k => a = 0 ∧ k = cb) ⟨cb, fun _ => 0, fun _ => 0, fun _ => 0⟩ 0 n (fun _ => ndSp 2 []) :=
    ⟨fun a k hk => by rw [hk.2]; exact hCB.lt, fun a b k h1 h2 => h1.1.trans h2.1.symm, ⟨rfl, rfl⟩, ⟨_, bag, hCB, Own.nil _ _ _ _⟩, fun i hi => absurd hi (by omega), fun i hi => absurd hi (by omega), fun i hi => absurd hi (by omega), fun i hi => absurd hi (by omega)⟩
  have HCL := Lib.hid hCL
  have c2 := HC2.out
  clear C1 C2 hz hz1 hz2 hCL hlo hCB c0
  go_wp2_with fail
  go_loopg [28] n (fun k v wr => ∃ (i : Nat) (F : Nat → Nat → Prop) (P : Cpl), v = .int .i64 i ∧ i ≤ n ∧ k = n - i ∧ P.cb = cb ∧ CL wr F P i n (fun _ => ndSp 2 []) ∧ (∀ a k, F a k → w1.heap.size ≤ k) ∧ Chg NoB w0 wr)
  case atStart => exact ⟨0, _, _, rfl, by omega, by omega, rfl, HCL.out, fun a k hk => by rw [hk.2]; exact HZ.out.2.1, HC2.out⟩
  case round =>
    obtain ⟨i, F, P, rfl, hin, hk, hPc, hL, hF, cr⟩ := hrel
    have HK := Lib.hid hk
    have HL := Lib.hid hL
    have HF := Lib.hid hF
    have HPc := Lib.hid hPc
    clear hk hF
    by_cases hi : i < n
    · have t1 : decide ((i : Int) < n) = true := decide_eq_true (by omega)
      have t2 : decide (i < n) = true := decide_eq_true hi
      have t3 : decide ((i : Int) < 0) = false := decide_eq_false (by omega)
      have HNN1 := Lib.hid (HNN.out i hi)
      clear hL hPc
      go_wp2_with fail
      with_reducible refine (HNN1.out _).mono ?_
      rintro e w3 ⟨v3, rfl, nb, hb, mb, kb, L, rfl, hlo, hno, hN, hS, hH, -, C3⟩
      have hS : SpAt w3 L (ndSp 2 []) := hS
      have hH : HmAt w3 ⟨hb, mb, L.pb, i, n, 1, 1, 2⟩ [] := hH
      have HCR := Lib.hid cr
      obtain ⟨v, bag, hcB, hown⟩ := HL.out.cl
      obtain ⟨xp, xc, hx⟩ := hown.form
      subst hx
      rw [HPc.out] at hcB
      have b0 := (C3.blk0 hcB).cell' (i := 0) (v := .slice xp i xc) rfl
      have bl := (C3.blk0 hcB).lt
      have oX := Lib.hid ((hown.chg0 C3).chg0 ((Chg.refl NoB w3).alloc (.cells #[.pointer (some ⟨nb, 0, none⟩)] 43)))
      have sX := Lib.hid (Sl.fresh w3 [.pointer (some ⟨nb, 0, none⟩)] 43 1 (size := 1) rfl)
      have HAdd : Hid (∀ v' w5, Own w5 (fun k => (Value.slice xp i xc).ownBlock = some k ∨ k = (w3.alloc (.cells #[.pointer (some ⟨nb, 0, none⟩)] 43)).heap.size) 43 1 v' (i + 1) (P.row i ++ [Value.pointer (some ⟨nb, 0, none⟩)]) → (w3.alloc (.cells #[.pointer (some ⟨nb, 0, none⟩)] 43)).grownBy w5 (Value.slice xp i xc).ownBlock →
          Blk w5 cb (clC (.slice xp i xc) bag) 105 ∧ CL (w5.setCell ⟨cb, 0, none⟩ v') (addF F L i hb mb kb wr w3 w5) (P.put i nb L.pb hb) (i + 1) n (fun _ => ndSp 2 []) ∧ Chg (InF F) wr (w5.setCell ⟨cb, 0, none⟩ v') ∧ (∀ a k, addF F L i hb mb kb wr w3 w5 a k → w1.heap.size ≤ k)) := Lib.hid (fun v' w5 ho hg => by
        obtain ⟨r1, r2, r3⟩ := HL.out.add (by rw [HPc.out]; exact hcB) hown hlo hno hN hS hH sp0_ok C3 ho hg
        rw [HPc.out] at r1 r2 r3
        have e : (fun j => if j = i then ndSp 2 [] else ndSp 2 []) = (fun _ : Nat => ndSp 2 []) := funext fun j => by split <;> rfl
        rw [e] at r2
        have z : w1.heap.size ≤ wr.heap.size := Nat.le_trans (HF.out 0 _ HL.out.f0) (Nat.le_of_lt (HL.out.bd 0 _ HL.out.f0))
        have z3 := C3.size
        refine ⟨r1, r2, r3, ?_⟩
        rintro a k (e | ⟨-, e⟩ | ⟨-, e | e⟩ | ⟨-, e, -⟩ | ⟨-, e, -⟩)
        · exact HF.out a k e
        · have := hlo.2.2.2 k e; omega
        · have := hlo.1; omega
        · have := hlo.2.1; omega
        · omega
        · omega)
      obtain ⟨i0, hi0, hz0, hz1, hz2⟩ := info_parts NODEPi
      have one : ∀ u ∈ [Value.pointer (some ⟨nb, 0, none⟩)], u.oneCell' = true := by simp [Value.oneCell']
      have b1 : i + 1 ≤ maxLen := by unfold maxLen; omega
      have b2 : (i + 1) * 8 ≤ 140737488355328 := by omega
      have cr3 := cr.step C3
      clear hlo hno hN hS hH C3 hcB hown cr
      go_wp2_with (at_builtin; go_must (refine wpList_app rfl _ _ 103 rfl i0 _ 8 Tryz.underlying103 hi0 hz0 hz1 hz2 rfl rfl oX.out _ 1 _ rfl sX.out one b1 b2 ?_))
      intro v' w5 ho5 hg5 hn5
      have hP := HAdd.out v' w5 (by rw [World.size_alloc]; exact ho5) hg5
      have k0 := hP.1.cell' (i := 0) (v := .slice xp i xc) rfl
      have kz := hP.1.frozen 0
      have kl := hP.1.lt
      obtain ⟨yp, yc, hy⟩ := ho5.form
      subst hy
      have HPs := Lib.hid hP.2
      clear hi0 hz0 hz1 hz2 one b1 b2 ho5 hg5 hn5 hP b0 bl
      go_wp2_with fail
      go_roundg (n - (i + 1))
      case rel => exact ⟨i + 1, _, P.put i nb L.pb hb, by go_num, by omega, rfl, HPc.out, HPs.out.1, HPs.out.2.2, HCR.out.trans HPs.out.2.1 fun b hb' e => by
        obtain ⟨a, e⟩ := e
        have := HF.out a b e
        have := HZ.out
        omega⟩
      case measure => rw [HK.out]; omega
    · have t1 : decide ((i : Int) < n) = false := decide_eq_false (by omega)
      have t2 : decide (i < n) = false := decide_eq_false hi
      obtain rfl : i = n := by omega
      clear hL hPc
      go_wp2_with fail
      go_ret2
      refine ⟨_, rfl, P, F, ?_, HL.out, fun a k hk => ?_, hC.out.step cr⟩
      · rw [HPc.out]; rfl
      · have := HF.out a k hk
        have := HZ.out
        omega
end Go.Proofs.YtleilfkcjollaaaGreat
