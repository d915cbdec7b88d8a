/- The buffer of entries: an entry is filled in. No condition. The buffer of entries: entries go at a fence; a new buffer. No condition. -/
import Derived.Test.YtdjaeoeejcmhdaaGreatDoorGq
import Derived.Test.YtdjaeoeejcmhdaaGreatDoorGe
set_option linter.unusedVariables false
set_option linter.unusedSimpArgs false
namespace Go.Proofs.YtdjaeoeejcmhdaaGreatDoor
open Go.RowKit Go.RR
theorem wcells_set_get {l : List Way} {k : Nat} {n : Way} (hk : k < l.length) (i : Nat) : (wcells (l.set k n))[i]? = if 15 * k ≤ i ∧ i < 15 * k + 15 then n.cs[i - 15 * k]? else (wcells l)[i]? := by
  have hdiv : i = 15 * (i / 15) + i % 15 := by omega
  have hm : i % 15 < 15 := Nat.mod_lt _ (by omega)
  by_cases h : 15 * k ≤ i ∧ i < 15 * k + 15
  · rw [if_pos h]
    have hq : i / 15 = k := by omega
    have := wcells_get (l := l.set k n) (k := k) (j := i % 15) (e := n) (by rw [List.getElem?_set_self hk]) hm
    rw [show 15 * k + i % 15 = i by omega] at this
    rw [this, show i - 15 * k = i % 15 by omega]
  · rw [if_neg h]
    by_cases hl : i / 15 < l.length
    · have h1 := wcells_get (l := l.set k n) (k := i / 15) (j := i % 15) (e := l[i / 15]) (by rw [List.getElem?_set_ne (by omega), List.getElem?_eq_getElem hl]) hm
      have h2 := wcells_get (l := l) (k := i / 15) (j := i % 15) (e := l[i / 15]) (List.getElem?_eq_getElem hl) hm
      rw [← hdiv] at h1 h2
      rw [h1, h2]
    · rw [List.getElem?_eq_none (by rw [wcells_len, List.length_set]; omega), List.getElem?_eq_none (by rw [wcells_len]; omega)]
/-- A way that is stored whole. -/
theorem way_store {w : World} {G : Nat} {T : TypeId} {l : List Way} (h : Blk w G (wcells l).toArray T) {k : Nat} (hk : k < l.length) (n : Way) :
    Blk (w.setCells G (k * 15) n.cs) G (wcells (l.set k n)).toArray T ∧ Chg (· = G) w (w.setCells G (k * 15) n.cs) := by
  have hl : (wcells l).length = l.length * 15 := wcells_len l
  obtain ⟨c', k1, k2, k3, k4, k5, k6, k7, k8, k9⟩ := setCells_blk n.cs (k * 15) w _ h (by rw [List.size_toArray, hl]; show k * 15 + 15 ≤ _; omega)
  have e : c' = (wcells (l.set k n)).toArray := by
    apply Array.ext_getElem?
    intro i
    rw [show (wcells (l.set k n)).toArray[i]? = (wcells (l.set k n))[i]? from by simp, wcells_set_get hk]
    by_cases hi : 15 * k ≤ i ∧ i < 15 * k + 15
    · rw [if_pos hi]
      have hj : i - 15 * k < n.cs.length := by show _ < 15; omega
      have := k3 (i - 15 * k) n.cs[i - 15 * k] (List.getElem?_eq_getElem hj)
      rw [show k * 15 + (i - 15 * k) = i by omega] at this
      rw [this, List.getElem?_eq_getElem hj]
    · rw [if_neg hi, k4 i (by show i < k * 15 ∨ k * 15 + 15 ≤ i; omega)]
      simp
  rw [e] at k1
  exact ⟨k1, ⟨k7, k8, k9, Nat.le_of_eq k6.symm, fun j _ hj => k5 j hj⟩⟩
theorem TlbIn.put {w w' : World} {S : Nat → Prop} {bb ob cap W : Nat} {gs : Nat → Nat} {cur : Array Value} {b : Tlb} (h : TlbIn w S bb ob cap W gs cur b) {i k : Nat} {l : List Way} {n : Way} (hi : b[i]? = some l) (hn : n.Ok)
    (hb : Blk w' (gs i) (wcells (l.set k n)).toArray 230) (c : Chg (· = gs i) w w') : TlbIn w' S bb ob cap W gs cur (b.set i (l.set k n)) := by
  have hil : i < b.length := (List.getElem?_eq_some_iff.1 hi).1
  obtain ⟨r1, r2, r3, r4⟩ := h.rows i l hi
  refine ⟨by rw [List.length_set]; exact c.blk h.buf (fun e => (h.n1 i hil).1 e.symm), c.blk h.out (fun e => (h.n1 i hil).2 e.symm), by rw [List.length_set]; exact h.cp, by rw [List.length_set]; exact h.sl, fun j m hj => ?_, by rw [List.length_set]; exact h.inj, by rw [List.length_set]; exact h.n1, h.n2, h.s1, h.s2, by rw [List.length_set]; exact h.l1, by rw [List.length_set]; exact h.l2, h.w1, h.w2⟩
  by_cases hij : i = j
  · subst hij
    rw [List.getElem?_set_self hil] at hj
    cases hj
    refine ⟨hb, by rw [List.length_set]; exact r2, r3, fun e he => ?_⟩
    rcases List.mem_or_eq_of_mem_set he with he | he
    · exact r4 e he
    · subst he; exact hn
  · rw [List.getElem?_set_ne hij] at hj
    obtain ⟨q1, q2, q3, q4⟩ := h.rows j m hj
    exact ⟨c.blk q1 (fun e => hij (h.inj i j hil (List.getElem?_eq_some_iff.1 hj).1 e.symm)), q2, q3, q4⟩
theorem victim_lt {s : List Way} {n : Way} {pick : Int} (h : 1 ≤ s.length) : victimF s n pick < s.length := by
  unfold victimF
  cases h1 : s.findIdx? (fun w => w.same n) with
  | some i => exact (List.findIdx?_eq_some_iff_getElem.1 h1).1
  | none => cases h2 : s.findIdx? (fun w => !w.full) with
    | some i => exact (List.findIdx?_eq_some_iff_getElem.1 h2).1
    | none => exact Nat.mod_lt _ (by omega)
theorem newWay_ok {va : Nat} {asid : Int} {l : Leaf} (hl : levelB l.level = true) (hp : l.p.Ok) (hpos : l.pos < 18446744073709551616) : (newWay va asid l).Ok :=
  ⟨hl, hp, hpos, by
    show pageOf va l.level < _
    unfold pageOf
    have := vpn_lt va
    exact Nat.lt_of_le_of_lt (Nat.div_le_self _ _) (by omega)⟩
set_option maxHeartbeats 2000000 in
set_option maxRecDepth 100000 in
theorem tlbFill_any {S : Nat → Prop} {w : World} {bb : Nat} {b : Tlb} (h : TlbAt w S bb b) (va : Nat) (asid : Int) (l : Leaf) (pick : Int) (hv : va < 18446744073709551616) (hl : levelB l.level = true) (hp : l.p.Ok) (hpos : l.pos < 18446744073709551616)
    (p1 : -9223372036854775808 ≤ pick) (p2 : pick ≤ 9223372036854775807) :
    Calls Tryz.prog 100 #[.pointer (some ⟨bb, 0, none⟩), .int .u64 va, .int .i64 asid, .agg #[.bool l.p.v, .bool l.p.r, .bool l.p.w, .bool l.p.x, .bool l.p.u, .bool l.p.g, .bool l.p.a, .bool l.p.d, .int .i64 l.p.rsw, .int .u64 l.p.ppn, .int .i64 l.level, .int .u64 l.pos], .int .i64 pick] w (RetW (.bool true) fun w' => TlbAt w' S bb (tlbFill b va asid l pick) ∧ Chg S w w') := by
  obtain ⟨ob, cap, W, gs, cur, h⟩ := h
  have HPg := Lib.hid fun w' => tlbPage_any va l.level w' hv hl
  have hnew := newWay_ok (va := va) (asid := asid) hl hp hpos
  obtain ⟨P, hP⟩ : ∃ P, pageOf va l.level = P := ⟨_, rfl⟩
  have hP64 : P < 18446744073709551616 := by have := hnew.page; rw [← hP]; exact this
  obtain ⟨s, hs⟩ : ∃ s, b[P % b.length]? = some s := by
    have := h.l1
    exact ⟨b[P % b.length]'(Nat.mod_lt _ (by omega)), List.getElem?_eq_getElem _⟩
  obtain ⟨hrow, hsl, hSg, hok⟩ := h.rows _ _ hs
  have hFl : tlbFill b va asid l pick = b.set (P % b.length) (s.set (victimF s (newWay va asid l) pick) (newWay va asid l)) := by
    unfold tlbFill tlbSet
    rw [hP, List.getD_eq_getElem?_getD, hs]
    rfl
  rw [hFl]
  have hW1 := h.w1
  have hW2 := h.w2
  have hvl : victimF s (newWay va asid l) pick < s.length := victim_lt (by omega)
  have HVic := Lib.hid fun w' (c : Chg NoB w w') => victim_any (c.blk0 hrow) hsl hW1 hW2 (newWay va asid l) pick p1 p2
  obtain ⟨k, hk⟩ : ∃ k, victimF s (newWay va asid l) pick = k := ⟨_, rfl⟩
  rw [hk] at HVic hvl ⊢
  have HSet := Lib.hid fun w' (c : Chg NoB w w') => tlbSet_any (TlbIn.chg0 h c) P hP64
  obtain ⟨G, hG⟩ : ∃ G, gs (P % b.length) = G := ⟨_, rfl⟩
  rw [hG] at HSet HVic hrow
  rw [hsl] at hvl
  have HFin : Hid (∀ w' , Chg NoB w w' → Blk (w'.setCells G (k * 15) (newWay va asid l).cs) G (wcells (s.set k (newWay va asid l))).toArray 230 ∧ TlbAt (w'.setCells G (k * 15) (newWay va asid l).cs) S bb (b.set (P % b.length) (s.set k (newWay va asid l))) ∧ Chg S w (w'.setCells G (k * 15) (newWay va asid l).cs)) := Lib.hid (fun w' c => by
    obtain ⟨a1, a2⟩ := way_store (c.blk0 hrow) (k := k) (by omega) (newWay va asid l)
    exact ⟨a1, ⟨ob, cap, W, gs, cur, (h.chg0 c).put hs hnew (by rw [hG]; exact a1) (by rw [hG]; exact a2)⟩, (c.mono (S' := S) fun _ _ e => e.elim).trans a2 fun j _ e => by have e : j = G := e; rw [e, ← hG]; exact hSg⟩)
  have fg := hrow.everF
  have lg := hrow.everL
  have hsz : ∀ j, j < 15 → ∀ w', Chg NoB w w' → ∃ z, w'.cell? ⟨G, k * 15 + j, none⟩ = some z := fun j hj w' c => by
    have := (c.blk0 hrow).cell (k * 15 + j)
    rw [this, List.getElem?_toArray]
    have hlt : k * 15 + j < (wcells s).length := by rw [wcells_len, hsl]; omega
    exact ⟨_, List.getElem?_eq_getElem hlt⟩
  have HSZ := Lib.hid hsz
  have hNW : newWay va asid l = ⟨true, asid, P, l⟩ := by unfold newWay; rw [hP]
  rw [hNW] at HVic HFin ⊢
  rw [hP] at HPg
  have hl1 : 0 ≤ l.level := by unfold levelB at hl; simp at hl; omega
  have hl2 : l.level ≤ 2 := by unfold levelB at hl; simp at hl; omega
  obtain ⟨⟨v, r, pw, x, u, g, a, d, rsw, ppn⟩, level, pos⟩ := l
  dsimp only at HPg HVic HFin hl1 hl2
  have t1 : decide (level < 0) = false := decide_eq_false (by omega)
  have t2 : decide (2 < level) = false := decide_eq_false (by omega)
  have HC := Lib.hid ((Chg.refl NoB w).alloc (.cells #[.bool v, .bool r, .bool pw, .bool x, .bool u, .bool g, .bool a, .bool d, .int .i64 rsw, .int .u64 ppn, .int .i64 level, .int .u64 pos] 137))
  have HB := Lib.hid (Blk.new w #[.bool v, .bool r, .bool pw, .bool x, .bool u, .bool g, .bool a, .bool d, .int .i64 rsw, .int .u64 ppn, .int .i64 level, .int .u64 pos] 137)
  clear hNW h hrow hsl hSg hok hs hFl hG hP hk hnew hl hp hpos hW1 hW2 hv hsz p1 p2 hP64
  go_enter Tryz.func100, Tryz.ntmps100
  go_upto_region 3 with fail
  generalize w.alloc (.cells #[.bool v, .bool r, .bool pw, .bool x, .bool u, .bool g, .bool a, .bool d, .int .i64 rsw, .int .u64 ppn, .int .i64 level, .int .u64 pos] 137) = w0 at *
  have fl := HB.out.ever
  have ll := HB.out.everL
  have c0 := Chg.refl NoB w0
  have cd : ∀ n, Chg NoB w0 (w0.drewN n) := fun n => c0.drewN n
  have HB1 : Hid (Blk (w0.alloc (.cells #[.bool true, .int .i64 asid, .int .u64 P, .bool v, .bool r, .bool pw, .bool x, .bool u, .bool g, .bool a, .bool d, .int .i64 rsw, .int .u64 ppn, .int .i64 level, .int .u64 pos] 230)).drew w0.heap.size #[.bool true, .int .i64 asid, .int .u64 P, .bool v, .bool r, .bool pw, .bool x, .bool u, .bool g, .bool a, .bool d, .int .i64 rsw, .int .u64 ppn, .int .i64 level, .int .u64 pos] 230) := Lib.hid (Blk.new w0 #[.bool true, .int .i64 asid, .int .u64 P, .bool v, .bool r, .bool pw, .bool x, .bool u, .bool g, .bool a, .bool d, .int .i64 rsw, .int .u64 ppn, .int .i64 level, .int .u64 pos] 230)
  have HC1 : Hid (Chg NoB w (w0.alloc (.cells #[.bool true, .int .i64 asid, .int .u64 P, .bool v, .bool r, .bool pw, .bool x, .bool u, .bool g, .bool a, .bool d, .int .i64 rsw, .int .u64 ppn, .int .i64 level, .int .u64 pos] 230)).drew) := Lib.hid ((HC.out.alloc _).drew)
  go_region_held3 (fun w' => Chg NoB w0 w') (repeat (first | assumption | apply Chg.drew | apply Chg.drewN | apply Chg.alloc)) (first | (go_at_call 136; (with_reducible refine (HPg.out _).mono ?_); rintro e w9 ⟨rfl, hw⟩; subst hw))
  all_goals
    clear fl ll c0 cd
    generalize (w0.alloc (.cells #[.bool true, .int .i64 asid, .int .u64 P, .bool v, .bool r, .bool pw, .bool x, .bool u, .bool g, .bool a, .bool d, .int .i64 rsw, .int .u64 ppn, .int .i64 level, .int .u64 pos] 230)).drew = w1 at *
    obtain ⟨nb, hnb⟩ : ∃ nb, w0.heap.size = nb := ⟨_, rfl⟩
    rw [hnb] at HB1 ⊢
    clear hnb
    have c1 := Chg.refl NoB w1
    have f1 := HB1.out.ever
    have l1 := HB1.out.everL
    go_wp2_with fail
    with_reducible refine (HSet.out _ HC1.out).mono ?_
    rintro e w2 ⟨rfl, C2⟩
    have HC2 := Lib.hid (HC1.out.step C2)
    go_upto_region 5 with fail
    have c2 := C2
    refine wp_region_take 7 [0, 1, 2, 3, 5] [4, 6] (fun w' => Chg NoB w1 w') (by kernel_rfl) (by kernel_rfl) (fun _ _ _ _ _ h => h) (c2.drew) ?_
    simp only [pickOps_nil, pickOps_cons, Option.getD_some, List.getElem?_toArray, List.getElem?_cons_zero, List.getElem?_cons_succ, List.cons_append, List.nil_append, List.drop_succ_cons, List.drop_zero]
    repeat
      refine wpTake_cons' rfl ?_
      apply Exists.intro
      refine ⟨fun wS hS => ?_, ?_⟩
      · try dsimp only at hS
        have cS := hS
        go_simp
        try rfl
      simp only [Act.put, List.setIfInBounds_toArray, List.set_cons_zero, List.set_cons_succ]
    refine wpTake_nil ?_
    refine wpForce_cons rfl (fun K hK => ?_)
    go_simp
    refine (HVic.out _ (HC2.out.drew)).mono ?_
    rintro e w3 ⟨rfl, C3⟩
    have c3 := C2.drew.step C3
    have HC3 := Lib.hid (HC2.out.drew.step C3)
    refine hK _ _ c3 ?_
    clear hK K
    refine wpForce_cons rfl (fun K hK => ?_)
    go_simp
    refine hK _ _ c3 ?_
    clear hK K
    refine wpForce_nil ?_
    have HX := Lib.hid (HFin.out w3 HC3.out).2
    have fG := fg w3 HC3.out
    have lG := lg w3 HC3.out
    obtain ⟨z0, hz0'⟩ := HSZ.out 0 (by omega) w3 HC3.out
    have hz0 : w3.cell? ⟨G, k * 15, none⟩ = some z0 := hz0'
    clear hz0'
    obtain ⟨z1, hz1⟩ := HSZ.out 1 (by omega) w3 HC3.out
    obtain ⟨z2, hz2⟩ := HSZ.out 2 (by omega) w3 HC3.out
    obtain ⟨z3, hz3⟩ := HSZ.out 3 (by omega) w3 HC3.out
    obtain ⟨z4, hz4⟩ := HSZ.out 4 (by omega) w3 HC3.out
    obtain ⟨z5, hz5⟩ := HSZ.out 5 (by omega) w3 HC3.out
    obtain ⟨z6, hz6⟩ := HSZ.out 6 (by omega) w3 HC3.out
    obtain ⟨z7, hz7⟩ := HSZ.out 7 (by omega) w3 HC3.out
    obtain ⟨z8, hz8⟩ := HSZ.out 8 (by omega) w3 HC3.out
    obtain ⟨z9, hz9⟩ := HSZ.out 9 (by omega) w3 HC3.out
    obtain ⟨z10, hz10⟩ := HSZ.out 10 (by omega) w3 HC3.out
    obtain ⟨z11, hz11⟩ := HSZ.out 11 (by omega) w3 HC3.out
    obtain ⟨z12, hz12⟩ := HSZ.out 12 (by omega) w3 HC3.out
    obtain ⟨z13, hz13⟩ := HSZ.out 13 (by omega) w3 HC3.out
    obtain ⟨z14, hz14⟩ := HSZ.out 14 (by omega) w3 HC3.out
    obtain ⟨w9, hw9s⟩ : ∃ w9, w3.setCells G (k * 15) (Way.cs ⟨true, asid, P, ⟨⟨v, r, pw, x, u, g, a, d, rsw, ppn⟩, level, pos⟩⟩) = w9 := ⟨_, rfl⟩
    have hw9 : (((((((((((((((w3.setCell ⟨G, k * 15, none⟩ (.bool true)).setCell ⟨G, k * 15 + 1, none⟩ (.int .i64 asid)).setCell ⟨G, k * 15 + 2, none⟩ (.int .u64 P)).setCell ⟨G, k * 15 + 3, none⟩ (.bool v)).setCell ⟨G, k * 15 + 4, none⟩ (.bool r)).setCell ⟨G, k * 15 + 5, none⟩ (.bool pw)).setCell ⟨G, k * 15 + 6, none⟩ (.bool x)).setCell ⟨G, k * 15 + 7, none⟩ (.bool u)).setCell ⟨G, k * 15 + 8, none⟩ (.bool g)).setCell ⟨G, k * 15 + 9, none⟩ (.bool a)).setCell ⟨G, k * 15 + 10, none⟩ (.bool d)).setCell ⟨G, k * 15 + 11, none⟩ (.int .i64 rsw)).setCell ⟨G, k * 15 + 12, none⟩ (.int .u64 ppn)).setCell ⟨G, k * 15 + 13, none⟩ (.int .i64 level)).setCell ⟨G, k * 15 + 14, none⟩ (.int .u64 pos)) = w9 := by rw [← hw9s]; rfl
    rw [hw9s] at HX
    clear hw9s c3 C3 f1 l1 c1 C2 c2
    go_wp2_with fail
    go_ret
    exact ⟨rfl, HX.out⟩
end Go.Proofs.YtdjaeoeejcmhdaaGreatDoor
set_option linter.unusedVariables false
set_option linter.unusedSimpArgs false
namespace Go.Proofs.YtdjaeoeejcmhdaaGreatDoor
open Go.RowKit Go.RR
theorem Way.has_full {e : Way} {va : Nat} (h : e.has va = true) : e.full = true := by
  unfold Way.has at h
  simp at h
  exact h.1
set_option maxHeartbeats 2000000 in
set_option maxRecDepth 100000 in
theorem goes_any (e : Way) (va vb : Nat) (w : World) (hv : va < 18446744073709551616) (hl : levelB e.leaf.level = true) (hc : w.cell? ⟨vb, 0, none⟩ = some (.int .u64 va)) :
    Calls Tryz.prog 166 #[.agg #[.bool e.full, .int .i64 e.asid, .int .u64 e.page, .bool e.leaf.p.v, .bool e.leaf.p.r, .bool e.leaf.p.w, .bool e.leaf.p.x, .bool e.leaf.p.u, .bool e.leaf.p.g, .bool e.leaf.p.a, .bool e.leaf.p.d, .int .i64 e.leaf.p.rsw, .int .u64 e.leaf.p.ppn, .int .i64 e.leaf.level, .int .u64 e.leaf.pos], .slice (some ⟨vb, 0, none⟩) 1 1, .slice none 0 0] w (RetW (.bool (e.goes va)) fun w' => Chg NoB w w') := by
  have H1 := Lib.hid fun w' => wayHas_any e va w' hv hl
  have hfull := Way.has_full (e := e) (va := va)
  obtain ⟨M, hM⟩ : ∃ M, e.has va = M := ⟨_, rfl⟩
  have HV : Hid (e.goes va = M) := Lib.hid hM
  rw [HV.out]
  rw [hM] at H1 hfull
  clear hM HV hl hv
  obtain ⟨full, asd, pg, ⟨⟨v, r, pw, x, u, g, a, d, rsw, ppn⟩, level, pos⟩⟩ := e
  dsimp only at H1 hfull ⊢
  have HB := Lib.hid (Blk.new w #[.bool full, .int .i64 asd, .int .u64 pg, .bool v, .bool r, .bool pw, .bool x, .bool u, .bool g, .bool a, .bool d, .int .i64 rsw, .int .u64 ppn, .int .i64 level, .int .u64 pos] 230)
  have HC := Lib.hid ((Chg.refl NoB w).alloc (.cells #[.bool full, .int .i64 asd, .int .u64 pg, .bool v, .bool r, .bool pw, .bool x, .bool u, .bool g, .bool a, .bool d, .int .i64 rsw, .int .u64 ppn, .int .i64 level, .int .u64 pos] 230))
  have hvl := World.block_lt_of_cell? w _ hc
  have fv : ∀ w', Chg NoB w w' → w'.cell? ⟨vb, 0, none⟩ = some (.int .u64 va) := fun w' c => c.cell hc id
  have fvl : ∀ w', Chg NoB w w' → vb < w'.heap.size := fun w' c => Nat.lt_of_lt_of_le hvl c.size
  have HV := Lib.hid (And.intro fv fvl)
  clear fv fvl hvl hc
  go_enter Tryz.func166, Tryz.ntmps166
  go_upto_region 1 with fail
  generalize w.alloc (.cells #[.bool full, .int .i64 asd, .int .u64 pg, .bool v, .bool r, .bool pw, .bool x, .bool u, .bool g, .bool a, .bool d, .int .i64 rsw, .int .u64 ppn, .int .i64 level, .int .u64 pos] 230) = w0 at *
  have f1 := HB.out.ever
  have l1 := HB.out.everL
  have fv : ∀ w', Chg NoB w0 w' → w'.cell? ⟨vb, 0, none⟩ = some (.int .u64 va) := fun w' c => HV.out.1 w' (HC.out.step c)
  have fvl : ∀ w', Chg NoB w0 w' → vb < w'.heap.size := fun w' c => HV.out.2 w' (HC.out.step c)
  have c0 := Chg.refl NoB w0
  clear HB HV
  go_region_held3 (fun w' => Chg NoB w0 w') ((repeat (first | assumption | apply Chg.drew | apply Chg.drewN | apply Chg.alloc))) (first | (go_at_call 169; (with_reducible refine (H1.out _).mono ?_); rintro e w9 ⟨rfl, hC⟩; have c9 := Chg.step (by assumption) hC; clear hC))
  have c1 : Chg NoB w0 w9 := by assumption
  have HC9 := Lib.hid (HC.out.step c1)
  cases M
  · go_wp2_with fail
    go_ret
    exact ⟨rfl, HC9.out⟩
  · have hfl : full = true := hfull rfl
    subst hfl
    clear hfull
    go_wp2_with fail
    have cd : ∀ n, Chg NoB w0 (w9.drewN n) := fun n => c1.drewN n
    go_quiet (fail)
    have HCd := Lib.hid (HC9.out.drewN nq)
    go_wp2_with fail
    go_ret
    exact ⟨rfl, HCd.out⟩
/-! What a fence leaves. -/
def gone (va : Nat) (e : Way) : Way := if e.goes va then Way.zero else e
def fset (va : Nat) (s : List Way) (k : Nat) : List Way := (s.take k).map (gone va) ++ s.drop k
def fall (va : Nat) (b : Tlb) (i : Nat) : Tlb := (b.take i).map (fun s => s.map (gone va)) ++ b.drop i
theorem upto_get {α : Type} {f : α → α} {s : List α} {k : Nat} (hk : k < s.length) : ((s.take k).map f ++ s.drop k)[k]? = s[k]? := by
  rw [List.getElem?_append_right (by simp [Nat.min_eq_left (Nat.le_of_lt hk)])]
  simp [Nat.min_eq_left (Nat.le_of_lt hk)]
theorem upto_len {α : Type} {f : α → α} {s : List α} {k : Nat} : ((s.take k).map f ++ s.drop k).length = s.length := by
  simp
  omega
theorem upto_step {α : Type} {f : α → α} {s : List α} {k : Nat} {e : α} (he : s[k]? = some e) : ((s.take k).map f ++ s.drop k).set k (f e) = (s.take (k + 1)).map f ++ s.drop (k + 1) := by
  obtain ⟨hk, rfl⟩ := List.getElem?_eq_some_iff.1 he
  apply List.ext_getElem?
  intro j
  rw [List.getElem?_set]
  have h1 : ((s.take k).map f).length = k := by simp; omega
  have h2 : ((s.take (k + 1)).map f).length = k + 1 := by simp; omega
  by_cases hj : k = j
  · subst hj
    rw [if_pos rfl, if_pos (by rw [upto_len]; exact hk), List.getElem?_append_left (by rw [h2]; omega)]
    simp [List.getElem?_take, hk]
  · rw [if_neg hj]
    by_cases hlt : j < k
    · rw [List.getElem?_append_left (by rw [h1]; exact hlt), List.getElem?_append_left (by rw [h2]; omega)]
      simp only [List.getElem?_map, List.getElem?_take]
      rw [if_pos hlt, if_pos (by omega)]
    · rw [List.getElem?_append_right (by rw [h1]; omega), List.getElem?_append_right (by rw [h2]; omega), h1, h2, List.getElem?_drop, List.getElem?_drop]
      congr 1
      omega
theorem upto_all {α : Type} {f : α → α} {s : List α} : (s.take s.length).map f ++ s.drop s.length = s.map f := by simp
theorem upto_none {α : Type} {f : α → α} {s : List α} : (s.take 0).map f ++ s.drop 0 = s := by simp
theorem set_same {α : Type} {l : List α} {i : Nat} {x : α} (h : l[i]? = some x) : l.set i x = l := by
  obtain ⟨hi, rfl⟩ := List.getElem?_eq_some_iff.1 h
  exact List.set_getElem_self hi
theorem fall_all (va : Nat) (b : Tlb) : fall va b b.length = tlbFence b va := by unfold fall; rw [upto_all]; rfl
set_option maxHeartbeats 2000000 in
set_option maxRecDepth 100000 in
theorem tlbFence_any {S : Nat → Prop} {w : World} {bb : Nat} {b : Tlb} (h : TlbAt w S bb b) (va vb : Nat) (hv : va < 18446744073709551616) (hc : w.cell? ⟨vb, 0, none⟩ = some (.int .u64 va)) (hn : ¬ S vb) :
    Calls Tryz.prog 132 #[.pointer (some ⟨bb, 0, none⟩), .slice (some ⟨vb, 0, none⟩) 1 1, .slice none 0 0] w (RetV fun v w' => ∃ n : Int, v = .int .i64 n ∧ TlbAt w' S bb (tlbFence b va) ∧ Chg S w w') := by
  obtain ⟨ob, cap, W, gs, cur, h⟩ := h
  have HGo := Lib.hid fun (e : Way) (he : levelB e.leaf.level = true) w' (hc : w'.cell? ⟨vb, 0, none⟩ = some (.int .u64 va)) => goes_any e va vb w' hv he hc
  have HH := Lib.hid h
  have HCv := Lib.hid fun w' (c : Chg S w w') => c.cell hc hn
  obtain ⟨n, hn'⟩ : ∃ n, b.length = n := ⟨_, rfl⟩
  have HN := Lib.hid hn'
  have hn2 : n ≤ 64 := by rw [← hn']; exact h.l2
  have hW2 := h.w2
  have b0 : w.cell? ⟨bb, 0, none⟩ = some (.slice (some ⟨ob, 0, none⟩) n cap) := by rw [← hn']; exact h.buf.cell' rfl
  have b1 := h.buf.lt
  clear hn' h hc hv hn
  go_enter Tryz.func132, Tryz.ntmps132
  go_wp2_with fail
  clear b0 b1
  go_loopg [19, 7] n (fun k v m wr => ∃ (i : Nat) (t : Int), v = .int .i64 i ∧ m = .int .i64 t ∧ 0 ≤ t ∧ t ≤ i * 8 ∧ i ≤ n ∧ k = n - i ∧ TlbIn wr S bb ob cap W gs cur (fall va b i) ∧ Chg S w wr)
  case atStart => exact ⟨0, 0, rfl, rfl, by omega, by omega, by omega, by omega, by unfold fall; rw [upto_none]; exact HH.out, Chg.refl _ _⟩
  case round =>
    obtain ⟨i, t, rfl, rfl, ht0, ht1, hi, hki, hT, hC⟩ := hrel
    have HK := Lib.hid hki
    have HT := Lib.hid hT
    have HC := Lib.hid hC
    have hfl : (fall va b i).length = n := by rw [← HN.out]; exact upto_len
    clear hki hC
    by_cases hlt : i < n
    · have t1 : decide (i < n) = true := decide_eq_true hlt
      obtain ⟨s, hs⟩ : ∃ s, b[i]? = some s := ⟨b[i]'(by rw [HN.out]; exact hlt), List.getElem?_eq_getElem _⟩
      have hs' : (fall va b i)[i]? = some s := by unfold fall; rw [upto_get (by rw [HN.out]; exact hlt)]; exact hs
      obtain ⟨-, hsl, hSg, hok⟩ := hT.rows _ _ hs'
      have HSl := Lib.hid hsl
      have HOk := Lib.hid hok
      have HS := Lib.hid (And.intro hs hs')
      have o1 := hT.out.cell' (hT.sl i (by rw [hfl]; exact hlt))
      have o2 := hT.out.lt
      obtain ⟨G, hG⟩ : ∃ G, gs i = G := ⟨_, rfl⟩
      have HG := Lib.hid hG
      rw [hG] at o1
      clear hs hs' hsl hok hT hG hfl
      go_wp2_with fail
      clear o1 o2
      go_loopg [25, 7] W (fun q v m wr => ∃ (k : Nat) (t : Int), v = .int .i64 k ∧ m = .int .i64 t ∧ 0 ≤ t ∧ t ≤ i * 8 + k ∧ k ≤ W ∧ q = W - k ∧ TlbIn wr S bb ob cap W gs cur ((fall va b i).set i (fset va s k)) ∧ Chg S w wr)
      case atStart => exact ⟨0, t, rfl, rfl, by omega, by omega, by omega, by omega, by unfold fset; rw [upto_none, set_same HS.out.2]; exact HT.out, HC.out⟩
      case round =>
        clear ht0 ht1 t1
        obtain ⟨k, t, rfl, rfl, ht0, ht1, hk, hq, hT, hC⟩ := hrel
        have HQ := Lib.hid hq
        have HT2 := Lib.hid hT
        have HC2 := Lib.hid hC
        clear hq hT hC
        have hbl : i < b.length := by rw [HN.out]; exact hlt
        by_cases hkl : k < W
        · have t2 : decide (k < W) = true := decide_eq_true hkl
          have hks : k < s.length := by rw [HSl.out]; exact hkl
          obtain ⟨e, he⟩ : ∃ e, s[k]? = some e := ⟨s[k], List.getElem?_eq_getElem hks⟩
          have he' : (fset va s k)[k]? = some e := by unfold fset; rw [upto_get hks]; exact he
          have hcur : ((fall va b i).set i (fset va s k))[i]? = some (fset va s k) := List.getElem?_set_self (by unfold fall; rw [upto_len]; exact hbl)
          obtain ⟨hrow, hrl, -, -⟩ := HT2.out.rows _ _ hcur
          rw [HG.out] at hrow
          have heo := HOk.out e (List.mem_of_getElem? he)
          have HGo1 := Lib.hid fun w' c => HGo.out e heo.lv w' c
          have hst : fset va s (k + 1) = (fset va s k).set k (gone va e) := (upto_step he).symm
          have HStep : Hid (∀ w', Chg NoB wr w' → (e.goes va = true → ∀ w9, w'.setCells G (k * 15) Way.zero.cs = w9 → TlbIn w9 S bb ob cap W gs cur ((fall va b i).set i (fset va s (k + 1))) ∧ Chg S w w9) ∧ (e.goes va = false → TlbIn w' S bb ob cap W gs cur ((fall va b i).set i (fset va s (k + 1))) ∧ Chg S w w')) := Lib.hid (fun w' c => by
            have c' : Chg S w w' := HC2.out.then0 c
            refine ⟨fun hg w9 h9 => ?_, fun hg => ?_⟩
            · subst h9
              obtain ⟨a1, a2⟩ := way_store (c.blk0 hrow) (k := k) (by rw [hrl]; exact hkl) Way.zero
              have ez : gone va e = Way.zero := by unfold gone; rw [if_pos hg]
              have := (HT2.out.chg0 c).put hcur Way.zero_ok (by rw [HG.out]; exact a1) (by rw [HG.out]; exact a2)
              rw [List.set_set, ← ez, ← hst] at this
              rw [ez] at this
              exact ⟨this, c'.trans a2 fun j _ e => by have e : j = G := e; rw [e, ← HG.out]; exact hSg⟩
            · have ez : gone va e = e := by unfold gone; rw [if_neg (by rw [hg]; decide)]
              rw [hst, ez, set_same he']
              exact ⟨HT2.out.chg0 c, c'⟩)
          have hc : ∀ j, j < 15 → ∀ w', Chg NoB wr w' → w'.cell? ⟨G, k * 15 + j, none⟩ = e.cs[j]? := fun j hj w' c => by
            rw [((c.blk0 hrow).cell (k * 15 + j)), List.getElem?_toArray, Nat.mul_comm, wcells_get he' hj]
          have HSZ : Hid (∀ j, j < 15 → ∀ w', Chg NoB wr w' → ∃ z, w'.cell? ⟨G, k * 15 + j, none⟩ = some z) := Lib.hid (fun j hj w' c => ⟨_, (hc j hj w' c).trans (List.getElem?_eq_getElem (by show j < 15; exact hj))⟩)
          have fG := hrow.everF
          have lG := hrow.everL
          have FG := Lib.hid (And.intro fG lG)
          obtain ⟨M, hM⟩ : ∃ M, e.goes va = M := ⟨_, rfl⟩
          rw [hM] at HGo1 HStep
          clear hM fG he he' hcur hrow hrl heo hst hks hbl
          obtain ⟨full, asd, pg, ⟨⟨v, r, pw, x, u, g, a, d, rsw, ppn⟩, level, pos⟩⟩ := e
          dsimp only at HGo1
          have g0 : ∀ w', Chg NoB wr w' → w'.cell? ⟨G, k * 15, none⟩ = some (.bool full) := fun w' c => hc 0 (by omega) w' c
          have g1 : ∀ w', Chg NoB wr w' → w'.cell? ⟨G, k * 15 + 1, none⟩ = some (.int .i64 asd) := fun w' c => hc 1 (by omega) w' c
          have g2 : ∀ w', Chg NoB wr w' → w'.cell? ⟨G, k * 15 + 2, none⟩ = some (.int .u64 pg) := fun w' c => hc 2 (by omega) w' c
          have g3 : ∀ w', Chg NoB wr w' → w'.cell? ⟨G, k * 15 + 3, none⟩ = some (.bool v) := fun w' c => hc 3 (by omega) w' c
          have g4 : ∀ w', Chg NoB wr w' → w'.cell? ⟨G, k * 15 + 4, none⟩ = some (.bool r) := fun w' c => hc 4 (by omega) w' c
          have g5 : ∀ w', Chg NoB wr w' → w'.cell? ⟨G, k * 15 + 5, none⟩ = some (.bool pw) := fun w' c => hc 5 (by omega) w' c
          have g6 : ∀ w', Chg NoB wr w' → w'.cell? ⟨G, k * 15 + 6, none⟩ = some (.bool x) := fun w' c => hc 6 (by omega) w' c
          have g7 : ∀ w', Chg NoB wr w' → w'.cell? ⟨G, k * 15 + 7, none⟩ = some (.bool u) := fun w' c => hc 7 (by omega) w' c
          have g8 : ∀ w', Chg NoB wr w' → w'.cell? ⟨G, k * 15 + 8, none⟩ = some (.bool g) := fun w' c => hc 8 (by omega) w' c
          have g9 : ∀ w', Chg NoB wr w' → w'.cell? ⟨G, k * 15 + 9, none⟩ = some (.bool a) := fun w' c => hc 9 (by omega) w' c
          have g10 : ∀ w', Chg NoB wr w' → w'.cell? ⟨G, k * 15 + 10, none⟩ = some (.bool d) := fun w' c => hc 10 (by omega) w' c
          have g11 : ∀ w', Chg NoB wr w' → w'.cell? ⟨G, k * 15 + 11, none⟩ = some (.int .i64 rsw) := fun w' c => hc 11 (by omega) w' c
          have g12 : ∀ w', Chg NoB wr w' → w'.cell? ⟨G, k * 15 + 12, none⟩ = some (.int .u64 ppn) := fun w' c => hc 12 (by omega) w' c
          have g13 : ∀ w', Chg NoB wr w' → w'.cell? ⟨G, k * 15 + 13, none⟩ = some (.int .i64 level) := fun w' c => hc 13 (by omega) w' c
          have g14 : ∀ w', Chg NoB wr w' → w'.cell? ⟨G, k * 15 + 14, none⟩ = some (.int .u64 pos) := fun w' c => hc 14 (by omega) w' c
          clear hc
          have cr := Chg.refl NoB wr
          have HBz := Lib.hid (Blk.new wr #[.bool full, .int .i64 asd, .int .u64 pg, .bool v, .bool r, .bool pw, .bool x, .bool u, .bool g, .bool a, .bool d, .int .i64 rsw, .int .u64 ppn, .int .i64 level, .int .u64 pos] 230)
          have HCz := Lib.hid (cr.alloc (.cells #[.bool full, .int .i64 asd, .int .u64 pg, .bool v, .bool r, .bool pw, .bool x, .bool u, .bool g, .bool a, .bool d, .int .i64 rsw, .int .u64 ppn, .int .i64 level, .int .u64 pos] 230))
          go_upto_region 10 with fail
          generalize wr.alloc (.cells #[.bool full, .int .i64 asd, .int .u64 pg, .bool v, .bool r, .bool pw, .bool x, .bool u, .bool g, .bool a, .bool d, .int .i64 rsw, .int .u64 ppn, .int .i64 level, .int .u64 pos] 230) = wz at *
          have zf := HBz.out.ever
          have lz := HBz.out.everL
          have cz := Chg.refl NoB wz
          obtain ⟨zb, hzb⟩ : ∃ zb, wr.heap.size = zb := ⟨_, rfl⟩
          rw [hzb] at zf lz ⊢
          clear hzb HBz g0 g1 g2 g3 g4 g5 g6 g7 g8 g9 g10 g11 g12 g13 g14 cr lG
          have hti : t ≤ 600 := by omega
          go_wp2_with fail
          with_reducible refine (HGo1.out _ (HCv.out _ (HC2.out.then0 HCz.out))).mono ?_
          rintro e w3 ⟨rfl, C3⟩
          have C3' := HCz.out.step C3
          have HX := Lib.hid (HStep.out w3 C3')
          have fG := FG.out.1 w3 C3'
          have lG := FG.out.2 w3 C3'
          clear cz
          cases M
          · have HY := Lib.hid (HX.out.2 rfl)
            clear C3 C3' zf lz fG lG
            go_wp2_with fail
            go_roundg (W - (k + 1))
            case rel => exact ⟨k + 1, t, by go_num, rfl, by omega, by omega, by omega, rfl, HY.out.1, HY.out.2⟩
            case measure => rw [HQ.out]; omega
          · obtain ⟨z0, hz0'⟩ := HSZ.out 0 (by omega) w3 C3'
            have hz0 : w3.cell? ⟨G, k * 15, none⟩ = some z0 := hz0'
            clear hz0'
            obtain ⟨z1, hz1⟩ := HSZ.out 1 (by omega) w3 C3'
            obtain ⟨z2, hz2⟩ := HSZ.out 2 (by omega) w3 C3'
            obtain ⟨z3, hz3⟩ := HSZ.out 3 (by omega) w3 C3'
            obtain ⟨z4, hz4⟩ := HSZ.out 4 (by omega) w3 C3'
            obtain ⟨z5, hz5⟩ := HSZ.out 5 (by omega) w3 C3'
            obtain ⟨z6, hz6⟩ := HSZ.out 6 (by omega) w3 C3'
            obtain ⟨z7, hz7⟩ := HSZ.out 7 (by omega) w3 C3'
            obtain ⟨z8, hz8⟩ := HSZ.out 8 (by omega) w3 C3'
            obtain ⟨z9, hz9⟩ := HSZ.out 9 (by omega) w3 C3'
            obtain ⟨z10, hz10⟩ := HSZ.out 10 (by omega) w3 C3'
            obtain ⟨z11, hz11⟩ := HSZ.out 11 (by omega) w3 C3'
            obtain ⟨z12, hz12⟩ := HSZ.out 12 (by omega) w3 C3'
            obtain ⟨z13, hz13⟩ := HSZ.out 13 (by omega) w3 C3'
            obtain ⟨z14, hz14⟩ := HSZ.out 14 (by omega) w3 C3'
            obtain ⟨w9, hw9s⟩ : ∃ w9, w3.setCells G (k * 15) Way.zero.cs = w9 := ⟨_, rfl⟩
            have hw9 : (((((((((((((((w3.setCell ⟨G, k * 15, none⟩ (.bool false)).setCell ⟨G, k * 15 + 1, none⟩ (.int .i64 0)).setCell ⟨G, k * 15 + 2, none⟩ (.int .u64 0)).setCell ⟨G, k * 15 + 3, none⟩ (.bool false)).setCell ⟨G, k * 15 + 4, none⟩ (.bool false)).setCell ⟨G, k * 15 + 5, none⟩ (.bool false)).setCell ⟨G, k * 15 + 6, none⟩ (.bool false)).setCell ⟨G, k * 15 + 7, none⟩ (.bool false)).setCell ⟨G, k * 15 + 8, none⟩ (.bool false)).setCell ⟨G, k * 15 + 9, none⟩ (.bool false)).setCell ⟨G, k * 15 + 10, none⟩ (.bool false)).setCell ⟨G, k * 15 + 11, none⟩ (.int .i64 0)).setCell ⟨G, k * 15 + 12, none⟩ (.int .u64 0)).setCell ⟨G, k * 15 + 13, none⟩ (.int .i64 0)).setCell ⟨G, k * 15 + 14, none⟩ (.int .u64 0)) = w9 := by rw [← hw9s]; rfl
            have HY := Lib.hid (HX.out.1 rfl w9 hw9s)
            clear hw9s C3 C3' zf lz
            go_wp2_with fail
            go_roundg (W - (k + 1))
            case rel => exact ⟨k + 1, t + 1, by go_num, rfl, by omega, by omega, by omega, rfl, HY.out.1, HY.out.2⟩
            case measure => rw [HQ.out]; omega
        · have t2 : decide (k < W) = false := decide_eq_false hkl
          have HX : Hid (TlbIn wr S bb ob cap W gs cur (fall va b (i + 1))) := Lib.hid (by
            have h1 : fset va s k = s.map (gone va) := by
              have : k = s.length := by rw [HSl.out]; omega
              subst this
              exact upto_all
            have h2 := (upto_step (f := fun s : List Way => s.map (gone va)) HS.out.1)
            have h3 := HT2.out
            rw [h1] at h3
            rw [show fall va b (i + 1) = (fall va b i).set i (s.map (gone va)) from h2.symm]
            exact h3)
          clear hbl
          go_wp2_with fail
          go_roundg (n - (i + 1))
          case rel => exact ⟨i + 1, t, by go_num, rfl, by omega, by omega, by omega, rfl, HX.out, HC2.out⟩
          case measure => rw [HK.out]; omega
    · have t1 : decide (i < n) = false := decide_eq_false hlt
      have HX : Hid (TlbAt wr S bb (tlbFence b va)) := Lib.hid ⟨ob, cap, W, gs, cur, by rw [← fall_all, show b.length = i by rw [HN.out]; omega]; exact HT.out⟩
      clear hT hfl
      go_wp2_with fail
      go_ret
      exact ⟨_, rfl, t, rfl, HX.out, HC.out⟩
end Go.Proofs.YtdjaeoeejcmhdaaGreatDoor
