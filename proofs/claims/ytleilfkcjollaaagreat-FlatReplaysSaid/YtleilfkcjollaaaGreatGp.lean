/- The buffer of entries: an entry is filled in. No condition. -/
import Derived.Test.YtleilfkcjollaaaGreatGo
import Derived.Test.YtleilfkcjollaaaGreatGh
set_option linter.unusedVariables false
set_option linter.unusedSimpArgs false
namespace Go.Proofs.YtleilfkcjollaaaGreat
open Go.RowKit Go.RR
theorem wcells_set_get {l : List Way} {k : Nat} {n : Way} (hk : k < l.length) (i : Nat) : (wcells (l.set k n))[i]? = if 15 * k ≤ i ∧ i < 15 * k + 15 then n.cs[i - 15 * k]? else (wcells l)[i]? := by
  have hdiv : i = 15 * (i / 15) + i % 15 := by omega
  have hm : i % 15 < 15 := Nat.mod_lt _ (by omega)
  by_cases h : 15 * k ≤ i ∧ i < 15 * k + 15
  · rw [if_pos h]
    have hq : i / 15 = k := by omega
    have := wcells_get (l := l.set k n) (k := k) (j := i % 15) (e := n) (by rw [List.getElem?_set_self hk]) hm
    rw [show 15 * k + i % 15 = i by omega] at this
    rw [this, show i - 15 * k = i % 15 by omega]
  · rw [if_neg h]
    by_cases hl : i / 15 < l.length
    · have h1 := wcells_get (l := l.set k n) (k := i / 15) (j := i % 15) (e := l[i / 15]) (by rw [List.getElem?_set_ne (by omega), List.getElem?_eq_getElem hl]) hm
      have h2 := wcells_get (l := l) (k := i / 15) (j := i % 15) (e := l[i / 15]) (List.getElem?_eq_getElem hl) hm
      rw [← hdiv] at h1 h2
      rw [h1, h2]
    · rw [List.getElem?_eq_none (by rw [wcells_len, List.length_set]; omega), List.getElem?_eq_none (by rw [wcells_len]; omega)]
/-- A way that is stored whole. -/
theorem way_store {w : World} {G : Nat} {T : TypeId} {l : List Way} (h : Blk w G (wcells l).toArray T) {k : Nat} (hk : k < l.length) (n : Way) :
    Blk (w.setCells G (k * 15) n.cs) G (wcells (l.set k n)).toArray T ∧ Chg (· = G) w (w.setCells G (k * 15) n.cs) := by
  have hl : (wcells l).length = l.length * 15 := wcells_len l
  obtain ⟨c', k1, k2, k3, k4, k5, k6, k7, k8, k9⟩ := setCells_blk n.cs (k * 15) w _ h (by rw [List.size_toArray, hl]; show k * 15 + 15 ≤ _; omega)
  have e : c' = (wcells (l.set k n)).toArray := by
    apply Array.ext_getElem?
    intro i
    rw [show (wcells (l.set k n)).toArray[i]? = (wcells (l.set k n))[i]? from by simp, wcells_set_get hk]
    by_cases hi : 15 * k ≤ i ∧ i < 15 * k + 15
    · rw [if_pos hi]
      have hj : i - 15 * k < n.cs.length := by show _ < 15; omega
      have := k3 (i - 15 * k) n.cs[i - 15 * k] (List.getElem?_eq_getElem hj)
      rw [show k * 15 + (i - 15 * k) = i by omega] at this
      rw [this, List.getElem?_eq_getElem hj]
    · rw [if_neg hi, k4 i (by show i < k * 15 ∨ k * 15 + 15 ≤ i; omega)]
      simp
  rw [e] at k1
  exact ⟨k1, ⟨k7, k8, k9, Nat.le_of_eq k6.symm, fun j _ hj => k5 j hj⟩⟩
theorem TlbIn.put {w w' : World} {S : Nat → Prop} {bb ob cap W : Nat} {gs : Nat → Nat} {cur : Array Value} {b : Tlb} (h : TlbIn w S bb ob cap W gs cur b) {i k : Nat} {l : List Way} {n : Way} (hi : b[i]? = some l) (hn : n.Ok)
    (hb : Blk w' (gs i) (wcells (l.set k n)).toArray 275) (c : Chg (· = gs i) w w') : TlbIn w' S bb ob cap W gs cur (b.set i (l.set k n)) := by
  have hil : i < b.length := (List.getElem?_eq_some_iff.1 hi).1
  obtain ⟨r1, r2, r3, r4⟩ := h.rows i l hi
  refine ⟨by rw [List.length_set]; exact c.blk h.buf (fun e => (h.n1 i hil).1 e.symm), c.blk h.out (fun e => (h.n1 i hil).2 e.symm), by rw [List.length_set]; exact h.cp, by rw [List.length_set]; exact h.sl, fun j m hj => ?_, by rw [List.length_set]; exact h.inj, by rw [List.length_set]; exact h.n1, h.n2, h.s1, h.s2, by rw [List.length_set]; exact h.l1, by rw [List.length_set]; exact h.l2, h.w1, h.w2⟩
  by_cases hij : i = j
  · subst hij
    rw [List.getElem?_set_self hil] at hj
    cases hj
    refine ⟨hb, by rw [List.length_set]; exact r2, r3, fun e he => ?_⟩
    rcases List.mem_or_eq_of_mem_set he with he | he
    · exact r4 e he
    · subst he; exact hn
  · rw [List.getElem?_set_ne hij] at hj
    obtain ⟨q1, q2, q3, q4⟩ := h.rows j m hj
    exact ⟨c.blk q1 (fun e => hij (h.inj i j hil (List.getElem?_eq_some_iff.1 hj).1 e.symm)), q2, q3, q4⟩
theorem victim_lt {s : List Way} {n : Way} {pick : Int} (h : 1 ≤ s.length) : victimF s n pick < s.length := by
  unfold victimF
  cases h1 : s.findIdx? (fun w => w.same n) with
  | some i => exact (List.findIdx?_eq_some_iff_getElem.1 h1).1
  | none => cases h2 : s.findIdx? (fun w => !w.full) with
    | some i => exact (List.findIdx?_eq_some_iff_getElem.1 h2).1
    | none => exact Nat.mod_lt _ (by omega)
theorem newWay_ok {va : Nat} {asid : Int} {l : Leaf} (hl : levelB l.level = true) (hp : l.p.Ok) (hpos : l.pos < 18446744073709551616) : (newWay va asid l).Ok :=
  ⟨hl, hp, hpos, by
    show pageOf va l.level < _
    unfold pageOf
    have := vpn_lt va
    exact Nat.lt_of_le_of_lt (Nat.div_le_self _ _) (by omega)⟩
set_option maxHeartbeats 2000000 in
set_option maxRecDepth 100000 in
theorem tlbFill_any {S : Nat → Prop} {w : World} {bb : Nat} {b : Tlb} (h : TlbAt w S bb b) (va : Nat) (asid : Int) (l : Leaf) (pick : Int) (hv : va < 18446744073709551616) (hl : levelB l.level = true) (hp : l.p.Ok) (hpos : l.pos < 18446744073709551616)
    (p1 : -9223372036854775808 ≤ pick) (p2 : pick ≤ 9223372036854775807) :
    Calls Tryz.prog 224 #[.pointer (some ⟨bb, 0, none⟩), .int .u64 va, .int .i64 asid, .agg #[.bool l.p.v, .bool l.p.r, .bool l.p.w, .bool l.p.x, .bool l.p.u, .bool l.p.g, .bool l.p.a, .bool l.p.d, .int .i64 l.p.rsw, .int .u64 l.p.ppn, .int .i64 l.level, .int .u64 l.pos], .int .i64 pick] w (RetW (.bool true) fun w' => TlbAt w' S bb (tlbFill b va asid l pick) ∧ Chg S w w') := by
  obtain ⟨ob, cap, W, gs, cur, h⟩ := h
  have HPg := Lib.hid fun w' => tlbPage_any va l.level w' hv hl
  have hnew := newWay_ok (va := va) (asid := asid) hl hp hpos
  obtain ⟨P, hP⟩ : ∃ P, pageOf va l.level = P := ⟨_, rfl⟩
  have hP64 : P < 18446744073709551616 := by have := hnew.page; rw [← hP]; exact this
  obtain ⟨s, hs⟩ : ∃ s, b[P % b.length]? = some s := by
    have := h.l1
    exact ⟨b[P % b.length]'(Nat.mod_lt _ (by omega)), List.getElem?_eq_getElem _⟩
  obtain ⟨hrow, hsl, hSg, hok⟩ := h.rows _ _ hs
  have hFl : tlbFill b va asid l pick = b.set (P % b.length) (s.set (victimF s (newWay va asid l) pick) (newWay va asid l)) := by
    unfold tlbFill tlbSet
    rw [hP, List.getD_eq_getElem?_getD, hs]
    rfl
  rw [hFl]
  have hW1 := h.w1
  have hW2 := h.w2
  have hvl : victimF s (newWay va asid l) pick < s.length := victim_lt (by omega)
  have HVic := Lib.hid fun w' (c : Chg NoB w w') => victim_any (c.blk0 hrow) hsl hW1 hW2 (newWay va asid l) pick p1 p2
  obtain ⟨k, hk⟩ : ∃ k, victimF s (newWay va asid l) pick = k := ⟨_, rfl⟩
  rw [hk] at HVic hvl ⊢
  have HSet := Lib.hid fun w' (c : Chg NoB w w') => tlbSet_any (TlbIn.chg0 h c) P hP64
  obtain ⟨G, hG⟩ : ∃ G, gs (P % b.length) = G := ⟨_, rfl⟩
  rw [hG] at HSet HVic hrow
  rw [hsl] at hvl
  have HFin : Hid (∀ w' , Chg NoB w w' → Blk (w'.setCells G (k * 15) (newWay va asid l).cs) G (wcells (s.set k (newWay va asid l))).toArray 275 ∧ TlbAt (w'.setCells G (k * 15) (newWay va asid l).cs) S bb (b.set (P % b.length) (s.set k (newWay va asid l))) ∧ Chg S w (w'.setCells G (k * 15) (newWay va asid l).cs)) := Lib.hid (fun w' c => by
    obtain ⟨a1, a2⟩ := way_store (c.blk0 hrow) (k := k) (by omega) (newWay va asid l)
    exact ⟨a1, ⟨ob, cap, W, gs, cur, (h.chg0 c).put hs hnew (by rw [hG]; exact a1) (by rw [hG]; exact a2)⟩, (c.mono (S' := S) fun _ _ e => e.elim).trans a2 fun j _ e => by have e : j = G := e; rw [e, ← hG]; exact hSg⟩)
  have fg := hrow.everF
  have lg := hrow.everL
  have hsz : ∀ j, j < 15 → ∀ w', Chg NoB w w' → ∃ z, w'.cell? ⟨G, k * 15 + j, none⟩ = some z := fun j hj w' c => by
    have := (c.blk0 hrow).cell (k * 15 + j)
    rw [this, List.getElem?_toArray]
    have hlt : k * 15 + j < (wcells s).length := by rw [wcells_len, hsl]; omega
    exact ⟨_, List.getElem?_eq_getElem hlt⟩
  have HSZ := Lib.hid hsz
  have hNW : newWay va asid l = ⟨true, asid, P, l⟩ := by unfold newWay; rw [hP]
  rw [hNW] at HVic HFin ⊢
  rw [hP] at HPg
  have hl1 : 0 ≤ l.level := by unfold levelB at hl; simp at hl; omega
  have hl2 : l.level ≤ 2 := by unfold levelB at hl; simp at hl; omega
  obtain ⟨⟨v, r, pw, x, u, g, a, d, rsw, ppn⟩, level, pos⟩ := l
  dsimp only at HPg HVic HFin hl1 hl2
  have t1 : decide (level < 0) = false := decide_eq_false (by omega)
  have t2 : decide (2 < level) = false := decide_eq_false (by omega)
  have HC := Lib.hid ((Chg.refl NoB w).alloc (.cells #[.bool v, .bool r, .bool pw, .bool x, .bool u, .bool g, .bool a, .bool d, .int .i64 rsw, .int .u64 ppn, .int .i64 level, .int .u64 pos] 133))
  have HB := Lib.hid (Blk.new w #[.bool v, .bool r, .bool pw, .bool x, .bool u, .bool g, .bool a, .bool d, .int .i64 rsw, .int .u64 ppn, .int .i64 level, .int .u64 pos] 133)
  clear hNW h hrow hsl hSg hok hs hFl hG hP hk hnew hl hp hpos hW1 hW2 hv hsz p1 p2 hP64
  go_enter Tryz.func224, Tryz.ntmps224
  go_upto_region 3 with fail
  generalize w.alloc (.cells #[.bool v, .bool r, .bool pw, .bool x, .bool u, .bool g, .bool a, .bool d, .int .i64 rsw, .int .u64 ppn, .int .i64 level, .int .u64 pos] 133) = w0 at *
  have fl := HB.out.ever
  have ll := HB.out.everL
  have c0 := Chg.refl NoB w0
  have cd : ∀ n, Chg NoB w0 (w0.drewN n) := fun n => c0.drewN n
  have HB1 : Hid (Blk (w0.alloc (.cells #[.bool true, .int .i64 asid, .int .u64 P, .bool v, .bool r, .bool pw, .bool x, .bool u, .bool g, .bool a, .bool d, .int .i64 rsw, .int .u64 ppn, .int .i64 level, .int .u64 pos] 275)).drew w0.heap.size #[.bool true, .int .i64 asid, .int .u64 P, .bool v, .bool r, .bool pw, .bool x, .bool u, .bool g, .bool a, .bool d, .int .i64 rsw, .int .u64 ppn, .int .i64 level, .int .u64 pos] 275) := Lib.hid (Blk.new w0 #[.bool true, .int .i64 asid, .int .u64 P, .bool v, .bool r, .bool pw, .bool x, .bool u, .bool g, .bool a, .bool d, .int .i64 rsw, .int .u64 ppn, .int .i64 level, .int .u64 pos] 275)
  have HC1 : Hid (Chg NoB w (w0.alloc (.cells #[.bool true, .int .i64 asid, .int .u64 P, .bool v, .bool r, .bool pw, .bool x, .bool u, .bool g, .bool a, .bool d, .int .i64 rsw, .int .u64 ppn, .int .i64 level, .int .u64 pos] 275)).drew) := Lib.hid ((HC.out.alloc _).drew)
  go_region_held3 (fun w' => Chg NoB w0 w') (repeat (first | assumption | apply Chg.drew | apply Chg.drewN | apply Chg.alloc)) (first | (go_at_call 188; (with_reducible refine (HPg.out _).mono ?_); rintro e w9 ⟨rfl, hw⟩; subst hw))
  all_goals
    clear fl ll c0 cd
    generalize (w0.alloc (.cells #[.bool true, .int .i64 asid, .int .u64 P, .bool v, .bool r, .bool pw, .bool x, .bool u, .bool g, .bool a, .bool d, .int .i64 rsw, .int .u64 ppn, .int .i64 level, .int .u64 pos] 275)).drew = w1 at *
    obtain ⟨nb, hnb⟩ : ∃ nb, w0.heap.size = nb := ⟨_, rfl⟩
    rw [hnb] at HB1 ⊢
    clear hnb
    have c1 := Chg.refl NoB w1
    have f1 := HB1.out.ever
    have l1 := HB1.out.everL
    go_wp2_with fail
    with_reducible refine (HSet.out _ HC1.out).mono ?_
    rintro e w2 ⟨rfl, C2⟩
    have HC2 := Lib.hid (HC1.out.step C2)
    go_upto_region 5 with fail
    have c2 := C2
    refine wp_region_take 7 [0, 1, 2, 3, 5] [4, 6] (fun w' => Chg NoB w1 w') (by kernel_rfl) (by kernel_rfl) (fun _ _ _ _ _ h => h) (c2.drew) ?_
    simp only [pickOps_nil, pickOps_cons, Option.getD_some, List.getElem?_toArray, List.getElem?_cons_zero, List.getElem?_cons_succ, List.cons_append, List.nil_append, List.drop_succ_cons, List.drop_zero]
    repeat
      refine wpTake_cons' rfl ?_
      apply Exists.intro
      refine ⟨fun wS hS => ?_, ?_⟩
      · try dsimp only at hS
        have cS := hS
        go_simp
        try rfl
      simp only [Act.put, List.setIfInBounds_toArray, List.set_cons_zero, List.set_cons_succ]
    refine wpTake_nil ?_
    refine wpForce_cons rfl (fun K hK => ?_)
    go_simp
    refine (HVic.out _ (HC2.out.drew)).mono ?_
    rintro e w3 ⟨rfl, C3⟩
    have c3 := C2.drew.step C3
    have HC3 := Lib.hid (HC2.out.drew.step C3)
    refine hK _ _ c3 ?_
    clear hK K
    refine wpForce_cons rfl (fun K hK => ?_)
    go_simp
    refine hK _ _ c3 ?_
    clear hK K
    refine wpForce_nil ?_
    have HX := Lib.hid (HFin.out w3 HC3.out).2
    have fG := fg w3 HC3.out
    have lG := lg w3 HC3.out
    obtain ⟨z0, hz0'⟩ := HSZ.out 0 (by omega) w3 HC3.out
    have hz0 : w3.cell? ⟨G, k * 15, none⟩ = some z0 := hz0'
    clear hz0'
    obtain ⟨z1, hz1⟩ := HSZ.out 1 (by omega) w3 HC3.out
    obtain ⟨z2, hz2⟩ := HSZ.out 2 (by omega) w3 HC3.out
    obtain ⟨z3, hz3⟩ := HSZ.out 3 (by omega) w3 HC3.out
    obtain ⟨z4, hz4⟩ := HSZ.out 4 (by omega) w3 HC3.out
    obtain ⟨z5, hz5⟩ := HSZ.out 5 (by omega) w3 HC3.out
    obtain ⟨z6, hz6⟩ := HSZ.out 6 (by omega) w3 HC3.out
    obtain ⟨z7, hz7⟩ := HSZ.out 7 (by omega) w3 HC3.out
    obtain ⟨z8, hz8⟩ := HSZ.out 8 (by omega) w3 HC3.out
    obtain ⟨z9, hz9⟩ := HSZ.out 9 (by omega) w3 HC3.out
    obtain ⟨z10, hz10⟩ := HSZ.out 10 (by omega) w3 HC3.out
    obtain ⟨z11, hz11⟩ := HSZ.out 11 (by omega) w3 HC3.out
    obtain ⟨z12, hz12⟩ := HSZ.out 12 (by omega) w3 HC3.out
    obtain ⟨z13, hz13⟩ := HSZ.out 13 (by omega) w3 HC3.out
    obtain ⟨z14, hz14⟩ := HSZ.out 14 (by omega) w3 HC3.out
    obtain ⟨w9, hw9s⟩ : ∃ w9, w3.setCells G (k * 15) (Way.cs ⟨true, asid, P, ⟨⟨v, r, pw, x, u, g, a, d, rsw, ppn⟩, level, pos⟩⟩) = w9 := ⟨_, rfl⟩
    have hw9 : (((((((((((((((w3.setCell ⟨G, k * 15, none⟩ (.bool true)).setCell ⟨G, k * 15 + 1, none⟩ (.int .i64 asid)).setCell ⟨G, k * 15 + 2, none⟩ (.int .u64 P)).setCell ⟨G, k * 15 + 3, none⟩ (.bool v)).setCell ⟨G, k * 15 + 4, none⟩ (.bool r)).setCell ⟨G, k * 15 + 5, none⟩ (.bool pw)).setCell ⟨G, k * 15 + 6, none⟩ (.bool x)).setCell ⟨G, k * 15 + 7, none⟩ (.bool u)).setCell ⟨G, k * 15 + 8, none⟩ (.bool g)).setCell ⟨G, k * 15 + 9, none⟩ (.bool a)).setCell ⟨G, k * 15 + 10, none⟩ (.bool d)).setCell ⟨G, k * 15 + 11, none⟩ (.int .i64 rsw)).setCell ⟨G, k * 15 + 12, none⟩ (.int .u64 ppn)).setCell ⟨G, k * 15 + 13, none⟩ (.int .i64 level)).setCell ⟨G, k * 15 + 14, none⟩ (.int .u64 pos)) = w9 := by rw [← hw9s]; rfl
    rw [hw9s] at HX
    clear hw9s c3 C3 f1 l1 c1 C2 c2
    go_wp2_with fail
    go_ret
    exact ⟨rfl, HX.out⟩
end Go.Proofs.YtleilfkcjollaaaGreat
