/- Where blocks begin, by the program: a map's keys, sorted. No condition. Blocks in plain words: where they begin, and which follow which. No condition. -/
import Derived.Test.YtapmojfebljjnaaGreatHt
import Derived.Test.YtapmojfebljjnaaGreatGa
import Derived.Maps.OwnOps
set_option linter.unusedVariables false
set_option linter.unusedSimpArgs false
set_option linter.unusedSectionVars false
namespace Go.Proofs.YtapmojfebljjnaaGreat
open Go.RowKit Go.RR Go.Maps Go.Sort Go.Shelf

def cutsB (i : In) : Bool := jumpB i.op || decide (i.op = 0)
set_option maxHeartbeats 1000000 in
set_option maxRecDepth 100000 in
theorem cuts_any (i : In) (w : World) : Calls Tryz.prog 70 #[.agg #[.int .i64 i.op, .int .i64 i.rd, .int .i64 i.rs, .int .i64 i.rt, .int .i64 i.im]] w (RetW (.bool (cutsB i)) fun w' => Chg NoB w w') := by
  have HC := Lib.hid ((Chg.refl NoB w).alloc (.cells #[.int .i64 i.op, .int .i64 i.rd, .int .i64 i.rs, .int .i64 i.rt, .int .i64 i.im] 41))
  have qB := ks_B (kd i.op)
  have qJ := ks_J (kd i.op)
  obtain ⟨s, hs⟩ : ∃ s, (kd i.op).s = s := ⟨_, rfl⟩
  rw [hs] at qB qJ
  have HS := Lib.hid hs
  obtain ⟨c, hc⟩ : ∃ c, cutsB i = c := ⟨_, rfl⟩
  have HCC := Lib.hid hc
  rw [hc]
  have hcb : c = (decide (kd i.op = .B) || decide (kd i.op = .J) || decide (i.op = 0)) := by rw [← hc]; rfl
  have HCB := Lib.hid hcb
  clear hs hc hcb
  by_cases hB : kd i.op = .B
  · rw [decide_eq_true hB] at qB
    have e := HCB.out
    rw [decide_eq_true hB] at e
    simp only [Bool.true_or] at e
    subst e
    clear hB qJ
    go_enter Tryz.func70, Tryz.ntmps70
    go_wp2_with fail
    refine (kind_any _ _).mono ?_
    rintro e w1 ⟨rfl, rfl⟩
    rw [HS.out]
    go_wp2_with fail
    go_ret
    exact ⟨rfl, HC.out⟩
  · rw [decide_eq_false hB] at qB
    by_cases hJ : kd i.op = .J
    · rw [decide_eq_true hJ] at qJ
      have e := HCB.out
      rw [decide_eq_false hB, decide_eq_true hJ] at e
      simp only [Bool.true_or, Bool.false_or] at e
      subst e
      clear hB hJ
      go_enter Tryz.func70, Tryz.ntmps70
      go_wp2_with fail
      refine (kind_any _ _).mono ?_
      rintro e w1 ⟨rfl, rfl⟩
      rw [HS.out]
      go_wp2_with fail
      go_ret
      exact ⟨rfl, HC.out⟩
    · rw [decide_eq_false hJ] at qJ
      have e := HCB.out
      rw [decide_eq_false hB, decide_eq_false hJ] at e
      simp only [Bool.false_or] at e
      clear hB hJ
      by_cases h0 : i.op = 0
      · have q0 : (i.op == 0) = true := by simp [h0]
        rw [decide_eq_true h0] at e
        subst e
        clear h0
        go_enter Tryz.func70, Tryz.ntmps70
        go_wp2_with fail
        refine (kind_any _ _).mono ?_
        rintro e w1 ⟨rfl, rfl⟩
        rw [HS.out]
        go_wp2_with fail
        go_ret
        exact ⟨rfl, HC.out⟩
      · have q0 : (i.op == 0) = false := by simp [h0]
        rw [decide_eq_false h0] at e
        subst e
        clear h0
        go_enter Tryz.func70, Tryz.ntmps70
        go_wp2_with fail
        refine (kind_any _ _).mono ?_
        rintro e w1 ⟨rfl, rfl⟩
        rw [HS.out]
        go_wp2_with fail
        go_ret
        exact ⟨rfl, HC.out⟩

/-- A map whose keys are the integers of which Q holds. -/
def KeysAt (w : World) (b n : Nat) (Q : Int → Prop) : Prop :=
  ∃ es : List (Lit × DataW Unit), w.ownsMap Tryz.prog 3 (plainElem Tryz.prog 4) b n (.map es) ∧ (∀ e ∈ es, ∃ x, e.1 = .int .i64 x) ∧ (∀ x, x ∈ es.map (fun e => _root_.Go.intOf e.1) ↔ Q x) ∧ (es.map (fun e => _root_.Go.intOf e.1)).Nodup
theorem insert_perm {H : Type} (x : Lit × DataW H) : ∀ l : List (Lit × DataW H), (DataW.insert x l).Perm (x :: l)
  | [] => List.Perm.refl _
  | y :: r => by
    unfold DataW.insert
    split
    · exact List.Perm.refl _
    · exact ((insert_perm x r).cons y).trans (List.Perm.swap x y r)
theorem KeysAt.new (w : World) : KeysAt (w.alloc (.map #[] 0)) w.heap.size 0 (fun _ => False) :=
  ⟨[], World.ownsMap_made w _ _ _, by simp, by simp, by simp⟩
theorem KeysAt.chg {S : Nat → Prop} {w w' : World} {b n : Nat} {Q : Int → Prop} (h : KeysAt w b n Q) (c : Chg S w w') (hn : ¬ S b) : KeysAt w' b n Q := by
  obtain ⟨es, h1, h2⟩ := h
  have hl := h1.lt
  obtain ⟨ar, clock, hb, r⟩ := h1
  exact ⟨es, ⟨ar, clock, (c.block b hl hn).trans hb, r⟩, h2⟩
theorem KeysAt.lt {w : World} {b n : Nat} {Q : Int → Prop} (h : KeysAt w b n Q) : b < w.heap.size := by obtain ⟨es, h1, -⟩ := h; exact h1.lt
theorem KeysAt.put {w : World} {b n : Nat} {Q Q' : Int → Prop} (h : KeysAt w b n Q) {x : Int} (hx : (Lit.int .i64 x).wf = true) (hn : n < 1000000) (hQ : ∀ y, Q' y ↔ (y = x ∨ Q y)) :
    ∃ w', (Instr.mapUpdate 162 (.map (some b)) (.int .i64 x) (.bool true)).run Tryz.prog w = .ok () w' ∧ KeysAt w' b (n + 1) Q' ∧ Chg (· = b) w w' := by
  obtain ⟨es, h1, h2, h3, h4⟩ := h
  obtain ⟨w', hr, ho, hg⟩ := h1.update (int_keyed Tryz.underlying3) Tryz.underlying162 (by unfold maxLen; omega) (Maps.keyOf_int_mk Tryz.underlying3 hx) (plainElem_bool Tryz.underlying4 true)
  rw [DataW.put_eq] at ho
  have hp := insert_perm ((Lit.int .i64 x, (.lit (.bool true) : DataW Unit))) (es.filter (ChangeMaps.notKey (.int .i64 x)))
  have hnk : ∀ e ∈ es, ∀ y, e.1 = .int .i64 y → (ChangeMaps.notKey (.int .i64 x) e = true ↔ y ≠ x) := by
    intro e he y hy
    simp [ChangeMaps.notKey, hy, Lit.sameKey]
  refine ⟨w', hr, ⟨_, ho, fun e he => ?_, fun y => ?_, ?_⟩, (Chg.refl (· = b) w).grown hg fun k hk => by cases hk; exact .inl rfl⟩
  · rcases List.mem_cons.1 (hp.mem_iff.1 he) with rfl | he
    · exact ⟨x, rfl⟩
    · exact h2 e (List.mem_filter.1 he).1
  · rw [hQ, ← h3]
    have hm : ∀ z, z ∈ (ChangeMaps.putKey (.int .i64 x) (.lit (.bool true) : DataW Unit) es).map (fun e => _root_.Go.intOf e.1) ↔ z ∈ (((Lit.int .i64 x, (.lit (.bool true) : DataW Unit))) :: es.filter (ChangeMaps.notKey (.int .i64 x))).map (fun e => _root_.Go.intOf e.1) := fun z => (hp.map _).mem_iff
    rw [hm, List.map_cons, List.mem_cons]
    constructor
    · rintro (rfl | h)
      · exact .inl rfl
      · obtain ⟨e, he, rfl⟩ := List.mem_map.1 h
        exact .inr (List.mem_map.2 ⟨e, (List.mem_filter.1 he).1, rfl⟩)
    · rintro (rfl | h)
      · exact .inl rfl
      · by_cases hyx : y = x
        · exact .inl (by rw [hyx]; rfl)
        · obtain ⟨e, he, hey⟩ := List.mem_map.1 h
          obtain ⟨z, hz⟩ := h2 e he
          have : z = y := by rw [← hey, hz]; rfl
          subst this
          exact .inr (List.mem_map.2 ⟨e, List.mem_filter.2 ⟨he, (hnk e he z hz).2 hyx⟩, by rw [hz]; rfl⟩)
  · refine ((hp.map (fun e => _root_.Go.intOf e.1)).nodup_iff).2 ?_
    rw [List.map_cons, List.nodup_cons]
    refine ⟨fun hmem => ?_, h4.sublist (List.Sublist.map _ List.filter_sublist)⟩
    obtain ⟨e, he, hex⟩ := List.mem_map.1 hmem
    obtain ⟨h5, h6⟩ := List.mem_filter.1 he
    obtain ⟨z, hz⟩ := h2 e h5
    have : z = x := by
      rw [hz] at hex
      exact hex
    exact (hnk e h5 z hz).1 h6 this
theorem wf_small {x : Int} (h0 : -1000000 ≤ x) (h1 : x ≤ 1000000) : (Lit.int .i64 x).wf = true := by
  have := IntKind.wrap_i64 x
  have h : IntKind.i64.wrap x = x := by omega
  have hm : IntKind.i64.min = -9223372036854775808 := rfl
  simp [Lit.wf, h]
  omega

theorem opwp_insert {P : Program} {o : Oper} {a : Act} {w w' : World} {K : Act → World → Prop} {Q : Exit → Act → World → Prop} (s x y : Operand) (t : TypeId) (b : Nat) (kx v : Value)
    (ho : o.op = .insert t s x y) (hs : a.eval s = .map (some b)) (hx : a.eval x = kx) (hy : a.eval y = v) (hr : (Instr.mapUpdate t (.map (some b)) kx v).run P w = .ok () w') (h : K (a.put o.dst undef) w') : o.wp P a w K Q := by
  unfold Oper.wp execOp
  simp [ho, hs, hx, hy, hr, Oper.upon]
  exact h
theorem wpList_keys {P : Program} {ops : Array Oper} {rest : List Oper} {o : Oper} {a : Act} {w w' : World} {Q : Exit → Act → World → Prop} (hgd : o.guard = none) (s x y : Operand) (t : TypeId) (b : Nat) (kx v : Value)
    (ho : o.op = .mapUpdate t s x y) (hs : a.eval s = .map (some b)) (hx : a.eval x = kx) (hy : a.eval y = v) (hr : (Instr.mapUpdate t (.map (some b)) kx v).run P w = .ok () w') (hc : wpList P ops Q rest (a.put o.dst undef) w') : wpList P ops Q (o :: rest) a w := by
  refine wpList_plain hgd fun K hK => ?_
  have hc2 := hK _ _ hc
  unfold Oper.wp execOp
  simp [ho, hs, hx, hy, hr, Oper.upon]
  exact hc2

/-- The places that are in the set when so many instructions are gone over. -/
def InKeys (l : List In) (j : Nat) (x : Int) : Prop := x = 0 ∨ x = l.length ∨ ∃ q i, q < j ∧ l[q]? = some i ∧ cutsB i = true ∧ (x = q + 1 ∨ x ∈ nextF l q)
theorem InKeys.in {l : List In} {j : Nat} {x : Int} (h : InKeys l j x) : 0 ≤ x ∧ x ≤ l.length := by
  rcases h with h | h | ⟨q, i, -, hi, -, h | h⟩
  · omega
  · omega
  · have := (List.getElem?_eq_some_iff.1 hi).1; omega
  · have := nextF_in h; omega
theorem Chg.of_below {w w' : World} (h : Below w.heap.size w w') : Chg NoB w w' := ⟨h.os, h.tape, h.output, h.size, fun k hk _ => h.block k hk⟩

theorem keys_call (mb : Option Nat) (w : World) : Calls Tryz.prog 72 #[.map mb] w fun e w' => e = .returned (.func (.func 108) #[] #[.pointer (some ⟨w.heap.size, 0, none⟩)]) ∧ w' = w.alloc (.cells #[.map mb] 162) :=
  callsIn_wide.1 (AnyZI.keys_in Tryz.keysA Fence.wide 5 trivial rfl mb w)
theorem sortsIn (m : Nat) : AnyZI.SortsIn Tryz.prog Tryz.sortedA_ren Fence.wide m :=
  ⟨fun blk off cap ss W hH hblk hsz => callsIn_wide.2 (AnyM.slices_Sort_int Tryz.sortA blk off cap ss W hH hblk hsz),
   fun p cap W => callsIn_wide.2 (AnyM.slices_Sort_int_none Tryz.sortA p cap W)⟩
set_option maxHeartbeats 1000000 in
theorem sorted_call {w : World} {b n : Nat} {Q : Int → Prop} (h : KeysAt w b n Q) (hn : n ≤ 1000000) :
    Calls Tryz.prog 71 #[.func (.func 108) #[] #[.pointer (some ⟨w.heap.size, 0, none⟩)]] (w.alloc (.cells #[.map (some b)] 162)) (RetSl fun v w' => ∃ ks : List Int, ks.Pairwise (· < ·) ∧ (∀ x, x ∈ ks ↔ Q x) ∧ Own w' (fun k => w.heap.size ≤ k) 3 1 v ks.length (ks.map (Value.int .i64)) ∧ Chg NoB w w') := by
  obtain ⟨es, h1, h2, h3, h4⟩ := h
  have hbl := h1.lt
  have h1' := h1
  obtain ⟨ar, clock, hb, Ft, hs, hD⟩ := h1
  have hsz : Maps.size (.map es : DataW Unit) ≤ n := by
    have : es.length = ((ar.toList.map (WideElems.rg Tryz.prog 3 (plainElem Tryz.prog 4))).foldr DataW.insert ([] : List (Lit × DataW Unit))).length := by cases hD; rfl
    rw [length_sorted] at this
    show es.length ≤ n
    simp at this
    omega
  have hseq : SeqGives Fence.wide 2 Tryz.prog 108 #[.pointer (some ⟨w.heap.size, 0, none⟩)] encZ (fun ss => ss.Perm (intKeys (.map es : DataW Unit))) (Maps.size (.map es : DataW Unit)) (w.alloc (.cells #[.map (some b)] 162)) :=
    AnyZI.keys_gives (ρ := Tryz.keysA_ren) { Tryz.keysA with } Fence.wide _ trivial rfl (by omega) w.heap.size b n (.map es) _ (by simp) (by simp) (by
      obtain ⟨er, cl, hb', Ft', hs', hD'⟩ := h1'
      exact ⟨er, cl, (Below.heap_alloc _ _ b hbl).trans hb', Ft', hs', hD'⟩)
  have cS := AnyZI.sorted_in Tryz.sortedA Fence.wide 5 trivial trivial trivial trivial rfl (by omega) (sortsIn _) (enters_of Tryz.func74 (by kernel_rfl) rfl) 108 #[.pointer (some ⟨w.heap.size, 0, none⟩)] trivial (enters_of Tryz.func108 (by kernel_rfl) rfl) _ _ (by unfold maxLen; omega) (by omega) _ hseq
  change CallsIn _ _ Tryz.prog 71 _ _ _ at cS
  refine (callsIn_wide.1 cS).mono ?_
  rintro e w' ⟨v, ss, rfl, hp, hrow, -, hbe⟩
  have hnd : ss.Nodup := (hp.nodup_iff).2 h4
  have hpm := List.mergeSort_perm ss (fun x y : Int => decide (x ≤ y))
  have hle := List.pairwise_mergeSort (le := fun x y : Int => decide (x ≤ y)) (fun a b c h1 h2 => by simp at *; omega) (fun a b => by simp; omega) ss
  have hnd2 : (ss.mergeSort fun x y => decide (x ≤ y)).Nodup := (hpm.nodup_iff).2 hnd
  refine ⟨v, rfl, ss.mergeSort fun x y => decide (x ≤ y), ?_, fun x => ?_, ?_, ?_⟩
  · refine (hle.and hnd2).imp fun {a b} hab => ?_
    obtain ⟨k1, k2⟩ := hab
    simp at k1
    omega
  · rw [hpm.mem_iff, hp.mem_iff]
    exact h3 x
  · rw [List.length_mergeSort]
    exact (Own.of_row hrow).mono fun k hk => by have := hk; simp at this; omega
  · exact ((Chg.refl NoB w).alloc _).step (Chg.of_below hbe)

theorem InKeys.step {l : List In} {j : Nat} {i : In} (hi : l[j]? = some i) (hc : cutsB i = true) (y : Int) : InKeys l (j + 1) y ↔ (InKeys l j y ∨ y = j + 1 ∨ y ∈ nextF l j) := by
  constructor
  · rintro (h | h | ⟨q, i', hq, h1, h2, h3⟩)
    · exact .inl (.inl h)
    · exact .inl (.inr (.inl h))
    · by_cases hqj : q = j
      · subst hqj; exact .inr h3
      · exact .inl (.inr (.inr ⟨q, i', by omega, h1, h2, h3⟩))
  · rintro ((h | h | ⟨q, i', hq, h1, h2, h3⟩) | h)
    · exact .inl h
    · exact .inr (.inl h)
    · exact .inr (.inr ⟨q, i', by omega, h1, h2, h3⟩)
    · exact .inr (.inr ⟨j, i, by omega, hi, hc, h⟩)
theorem InKeys.skip {l : List In} {j : Nat} {i : In} (hi : l[j]? = some i) (hc : cutsB i = false) (y : Int) : InKeys l (j + 1) y ↔ InKeys l j y := by
  constructor
  · rintro (h | h | ⟨q, i', hq, h1, h2, h3⟩)
    · exact .inl h
    · exact .inr (.inl h)
    · by_cases hqj : q = j
      · subst hqj; rw [hi] at h1; cases h1; rw [hc] at h2; cases h2
      · exact .inr (.inr ⟨q, i', by omega, h1, h2, h3⟩)
  · rintro (h | h | ⟨q, i', hq, h1, h2, h3⟩)
    · exact .inl h
    · exact .inr (.inl h)
    · exact .inr (.inr ⟨q, i', by omega, h1, h2, h3⟩)
theorem KeysAt.congr {w : World} {b n : Nat} {Q Q' : Int → Prop} (h : KeysAt w b n Q) (e : ∀ x, Q x ↔ Q' x) : KeysAt w b n Q' := by
  obtain ⟨es, h1, h2, h3, h4⟩ := h
  exact ⟨es, h1, h2, fun x => (h3 x).trans (e x), h4⟩
set_option maxHeartbeats 4000000 in
set_option maxRecDepth 100000 in
theorem begins_any (S : Nat → Prop) (v : Value) (l : List In) (w : World) (hs : Sl w S 5 v l.length (icells l)) (hl : l.length ≤ 40) (hr : ∀ i ∈ l, rightB i = true) :
    Calls Tryz.prog 36 #[v] w (RetSl fun v w' => ∃ ks : List Int, ks.Pairwise (· < ·) ∧ (∀ x, x ∈ ks ↔ InKeys l l.length x) ∧ Own w' (fun k => w.heap.size ≤ k) 3 1 v ks.length (ks.map (Value.int .i64)) ∧ Chg NoB w w') := by
  have hmm := @run_makeMap Tryz.prog
  obtain ⟨pv, cv, rfl⟩ := hs.form
  have hs' := hs.monoIn (S' := fun k => k < w.heap.size) fun k h _ => h
  have HS := Lib.hid hs'
  have HR := Lib.hid hr
  have HMM := Lib.hid hmm
  clear hs hs' hr hmm
  have K1 : KeysAt (w.drew.alloc (.map #[] 0)) w.heap.size 0 (fun _ => False) := KeysAt.new w.drew
  have C1 : Chg NoB w (w.drew.alloc (.map #[] 0)) := ((Chg.refl NoB w).drew).alloc _
  obtain ⟨wa, ha, Ka, Ca⟩ := K1.put (Q' := fun y => y = 0) (x := 0) (wf_small (by omega) (by omega)) (by omega) (fun y => by simp)
  obtain ⟨wab, hab, Kab, Cab⟩ := Ka.put (Q' := InKeys l 0) (x := (l.length : Int)) (wf_small (by omega) (by omega)) (by omega) (fun y => by
    constructor
    · rintro (h | h | ⟨q, i', hq, -⟩)
      · exact .inr h
      · exact .inl h
      · omega
    · rintro (h | h)
      · exact .inr (.inl h)
      · exact .inl h)
  obtain ⟨wb, hb, Kb, Cb⟩ := K1.put (Q' := fun y => y = l.length) (x := (l.length : Int)) (wf_small (by omega) (by omega)) (by omega) (fun y => by simp)
  obtain ⟨wba, hba, Kba, Cba⟩ := Kb.put (Q' := InKeys l 0) (x := 0) (wf_small (by omega) (by omega)) (by omega) (fun y => by
    constructor
    · rintro (h | h | ⟨q, i', hq, -⟩)
      · exact .inl h
      · exact .inr h
      · omega
    · rintro (h | h)
      · exact .inl h
      · exact .inr (.inl h))
  have HA := Lib.hid ha
  have HAB := Lib.hid hab
  have HB := Lib.hid hb
  have HBA := Lib.hid hba
  have hzw : w.heap.size ≤ w.heap.size := Nat.le_refl _
  have E1 : Hid (KeysAt wab w.heap.size 2 (InKeys l 0) ∧ Chg NoB w wab) := Lib.hid ⟨Kab, (C1.trans Ca fun q hq e => by have e : q = w.heap.size := e; omega).trans Cab fun q hq e => by have e : q = w.heap.size := e; omega⟩
  have E2 : Hid (KeysAt wba w.heap.size 2 (InKeys l 0) ∧ Chg NoB w wba) := Lib.hid ⟨Kba, (C1.trans Cb fun q hq e => by have e : q = w.heap.size := e; omega).trans Cba fun q hq e => by have e : q = w.heap.size := e; omega⟩
  clear K1 C1 ha hab hb hba Ka Kab Kb Kba Ca Cab Cb Cba hzw
  go_enter Tryz.func36, Tryz.ntmps36
  go_upto_region 1 with fail
  go_cut [3] (fun v wx => v = .map (some w.heap.size) ∧ KeysAt wx w.heap.size 2 (InKeys l 0) ∧ Chg NoB w wx)
  case first =>
    have hmm := HMM.out
    refine wp_region_all 5 3 [2, 3] (fun _ => True) (by kernel_rfl) (by kernel_rfl) (fun _ _ _ _ _ h => h) (trivial) ?_
    simp only [pickOps_nil, pickOps_cons, Option.getD_some, List.getElem?_toArray, List.getElem?_cons_zero, List.getElem?_cons_succ, List.cons_append, List.nil_append, List.drop_succ_cons, List.drop_zero]
    repeat
      refine wpTake_cons' rfl ?_
      apply Exists.intro
      refine ⟨fun wS hS => ?_, ?_⟩
      · try dsimp only at hS
        obtain _ := hS
        go_simp
        try rfl
      simp only [Act.put, List.setIfInBounds_toArray, List.set_cons_zero, List.set_cons_succ]
    refine wpTake_nil ?_
    refine wpAll_cons [0] (by kernel_rfl) ?_
    intro i hi
    simp only [List.mem_cons, List.not_mem_nil, or_false] at hi
    subst hi
    refine ⟨_, rfl, rfl, fun K hK => ?_⟩
    go_simp
    refine hK _ _ trivial ?_
    clear hK K hmm
    refine wpAll_cons [1, 4] (by kernel_rfl) ?_
    intro i hi
    simp only [List.mem_cons, List.not_mem_nil, or_false] at hi
    rcases hi with rfl | rfl
    ·
      refine ⟨_, rfl, rfl, fun K hK => ?_⟩
      refine opwp_insert _ _ _ 162 w.heap.size _ _ (by rfl) (by rfl) (by rfl) (by rfl) HA.out ?_
      simp only [Act.put, List.setIfInBounds_toArray, List.set_cons_zero, List.set_cons_succ]
      refine hK _ _ trivial ?_
      clear hK K
      refine wpAll_cons [4] (by kernel_rfl) ?_
      intro i hi
      simp only [List.mem_cons, List.not_mem_nil, or_false] at hi
      subst hi
      refine ⟨_, rfl, rfl, fun K hK => ?_⟩
      refine opwp_insert _ _ _ 162 w.heap.size _ _ (by rfl) (by rfl) (by rfl) (by rfl) HAB.out ?_
      simp only [Act.put, List.setIfInBounds_toArray, List.set_cons_zero, List.set_cons_succ]
      refine hK _ _ trivial ?_
      clear hK K
      refine wpAll_nil ?_
      go_wp2_with fail
      go_meet
      exact ⟨rfl, E1.out⟩
    ·
      refine ⟨_, rfl, rfl, fun K hK => ?_⟩
      refine opwp_insert _ _ _ 162 w.heap.size _ _ (by rfl) (by rfl) (by rfl) (by rfl) HB.out ?_
      simp only [Act.put, List.setIfInBounds_toArray, List.set_cons_zero, List.set_cons_succ]
      refine hK _ _ trivial ?_
      clear hK K
      refine wpAll_cons [1] (by kernel_rfl) ?_
      intro i hi
      simp only [List.mem_cons, List.not_mem_nil, or_false] at hi
      subst hi
      refine ⟨_, rfl, rfl, fun K hK => ?_⟩
      refine opwp_insert _ _ _ 162 w.heap.size _ _ (by rfl) (by rfl) (by rfl) (by rfl) HBA.out ?_
      simp only [Act.put, List.setIfInBounds_toArray, List.set_cons_zero, List.set_cons_succ]
      refine hK _ _ trivial ?_
      clear hK K
      refine wpAll_nil ?_
      go_wp2_with fail
      go_meet
      exact ⟨rfl, E2.out⟩
  case rest =>
    obtain ⟨rfl, hke⟩ := hcut
    have HKE := Lib.hid hke
    clear hke
    have KE := HKE.out.1
    have CE := HKE.out.2
    clear E1 E2 HA HAB HB HBA
    go_wp2_with fail
    go_loopg [14] l.length (fun gk ix wr => ∃ j n : Nat, j + gk = l.length ∧ ix = .int .i64 j ∧ n ≤ 2 + 3 * j ∧ KeysAt wr w.heap.size n (InKeys l j) ∧ Chg NoB w wr)
    case atStart => exact ⟨0, 2, by omega, rfl, by omega, KE, CE⟩
    case round =>
      obtain ⟨j, n, hj, rfl, hn, hK, hC⟩ := hrel
      rename World => wr
      have HJ := Lib.hid hj
      have HKK := Lib.hid hK
      have HC := Lib.hid hC
      have hjl : j ≤ l.length := by omega
      clear hj hK hC KE CE
      by_cases hlt : j < l.length
      · obtain ⟨i, hi⟩ : ∃ i, l[j]? = some i := ⟨l[j], by simp [hlt]⟩
        have HI := Lib.hid hi
        obtain ⟨pi, ci, hpi, hIn⟩ := InsAt.of (HS.out.chg0 HC.out) (by omega)
        cases hpi
        obtain ⟨gi, oi, rfl, hgi, c0, c1, c2, c3, c4⟩ := hIn.at hi
        have hIcap := hIn.cap
        have hbk := HKK.out.lt
        have j0 : (0 : Int) ≤ j := by omega
        have j1 : (j : Int) < l.length := by omega
        have HA0 := Lib.hid ((Chg.refl NoB wr).alloc (.cells #[.int .i64 i.op, .int .i64 i.rd, .int .i64 i.rs, .int .i64 i.rt, .int .i64 i.im] 41))
        clear hi hIn
        go_wp2_with fail
        refine (cuts_any i _).mono ?_
        rintro e w1 ⟨rfl, C1⟩
        have hz1 := HA0.out.size
        have hz2 := C1.size
        have K1 := (HKK.out.chg HA0.out id).chg C1 id
        have HC1 := Lib.hid (HC.out.step (HA0.out.step C1))
        clear C1 c0 c1 c2 c3 c4
        cases hcb : cutsB i
        · have e := fun x => InKeys.skip HI.out hcb x
          have HK1 := Lib.hid (K1.congr fun x => (e x).symm)
          have HCB := Lib.hid hcb
          clear K1 e hcb
          go_wp2_with fail
          go_roundg (l.length - (j + 1))
          case measure => have := HJ.out; omega
          case rel => exact ⟨j + 1, n, by have := HJ.out; omega, by go_num, by omega, HK1.out, HC1.out⟩
        · have e := fun x => InKeys.step HI.out hcb x
          have HE := Lib.hid e
          obtain ⟨w2, h2, K2, C2⟩ := K1.put (Q' := fun y => InKeys l j y ∨ y = (j : Int) + 1) (x := (j : Int) + 1) (wf_small (by omega) (by omega)) (by omega) (fun y => Or.comm)
          have HC2 := Lib.hid (HC1.out.trans C2 fun q hq e => by have e : q = w.heap.size := e; omega)
          have HK2 := Lib.hid K2
          have H2 := Lib.hid h2
          have hz3 := C2.size
          clear K1 e hcb K2 C2 h2
          go_wp2_with (refine wpList_keys rfl _ _ _ 162 w.heap.size _ _ rfl rfl rfl rfl H2.out ?_)
          go_wp2_with fail
          refine (fnext_any _ _ l j _ (HS.out.chg0 HC2.out) hl HR.out).mono ?_
          rintro e w3 ⟨v3, rfl, hI, C3⟩
          have hnx := nextF_nx l j
          rw [hnx] at hI
          obtain ⟨p2, d2, rfl, hP2⟩ := hI.place
          obtain ⟨ns, hns⟩ : ∃ ns, nxN l j = ns := ⟨_, rfl⟩
          have hnb : ∀ n ∈ ns, n ≤ l.length := by rw [← hns]; exact nxN_le hlt
          have hn2 : ns.length ≤ 2 := by rw [← hns, nxN_len]; exact nextF_len _ _
          have HHI := Lib.hid hP2
          rw [hns] at HHI hnx ⊢
          have HNX := Lib.hid hnx
          have HNB := Lib.hid hnb
          have HK3 := Lib.hid ((HK2.out.chg C3 id).congr (Q' := fun y => (InKeys l j y ∨ y = (j : Int) + 1) ∨ y ∈ (ns.take 0).map fun n : Nat => (n : Int)) fun x => by simp)
          have HC3 := Lib.hid (HC2.out.step C3)
          have hz4 := C3.size
          clear hI hP2 hnb hns C3 hnx
          go_wp2_with fail
          go_loopg [29] ns.length (fun gk ix wr => ∃ k n2 : Nat, k + gk = ns.length ∧ ix = .int .i64 k ∧ n2 ≤ n + 1 + k ∧ KeysAt wr w.heap.size n2 (fun y => (InKeys l j y ∨ y = (j : Int) + 1) ∨ y ∈ (ns.take k).map fun n : Nat => (n : Int)) ∧ Chg NoB w wr ∧ Chg (· = w.heap.size) w3 wr)
          case atStart => exact ⟨0, n + 1, by omega, rfl, by omega, HK3.out, HC3.out, Chg.refl _ _⟩
          case round =>
            obtain ⟨k, n2, hk, rfl, hnn, hK, hC, hC2⟩ := hrel
            have HK := Lib.hid hk
            have HKK4 := Lib.hid hK
            have HC4 := Lib.hid hC
            have HC5 := Lib.hid hC2
            have hkl : k ≤ ns.length := by omega
            clear hk hK hC hC2
            by_cases hltk : k < ns.length
            · obtain ⟨q, hq⟩ : ∃ q, ns[k]? = some q := ⟨ns[k], by simp [hltk]⟩
              obtain ⟨hcap, g1, o1, rfl, hgB, hg1, x0⟩ := HHI.out k q hq
              have hnl := HNB.out q (List.mem_of_getElem? hq)
              have x0 := HC5.out.cell x0 (fun e => by have e : g1 = w.heap.size := e; omega)
              have htk : (ns.take (k + 1)).map (fun n : Nat => (n : Int)) = (ns.take k).map (fun n : Nat => (n : Int)) ++ [(q : Int)] := by rw [List.take_add_one, hq]; simp
              obtain ⟨w5, h5, K5, C5⟩ := HKK4.out.put (Q' := fun y => (InKeys l j y ∨ y = (j : Int) + 1) ∨ y ∈ (ns.take (k + 1)).map fun n : Nat => (n : Int)) (x := (q : Int)) (wf_small (by omega) (by omega)) (by omega) (fun y => by
                rw [htk, List.mem_append, List.mem_singleton]
                constructor
                · rintro (h | h | h)
                  · exact .inr (.inl h)
                  · exact .inr (.inr h)
                  · exact .inl h
                · rintro (h | h | h)
                  · exact .inr (.inr h)
                  · exact .inl h
                  · exact .inr (.inl h))
              have k0 : (0 : Int) ≤ k := by omega
              have k1 : (k : Int) < ns.length := by omega
              have H5 := Lib.hid h5
              have HK5 := Lib.hid K5
              have HC6 := Lib.hid (HC4.out.trans C5 fun q hq e => by have e : q = w.heap.size := e; omega)
              have HC7 := Lib.hid (HC5.out.step C5)
              clear hq htk h5 K5 C5 hgB
              go_wp2_with (refine wpList_keys rfl _ _ _ 162 w.heap.size _ _ rfl rfl rfl rfl H5.out ?_)
              go_wp2_with fail
              go_roundg (ns.length - (k + 1))
              case measure => have := HK.out; omega
              case rel => exact ⟨k + 1, n2 + 1, by have := HK.out; omega, by go_num, by omega, HK5.out, HC6.out, HC7.out⟩
            · obtain rfl : k = ns.length := by omega
              have K6 := HKK4.out
              rw [List.take_length, ← HNX.out] at K6
              have HK6 := Lib.hid (K6.congr (Q' := InKeys l (j + 1)) fun x => by rw [HE.out x, or_assoc])
              clear K6
              go_wp2_with fail
              go_roundg (l.length - (j + 1))
              case measure => have := HJ.out; omega
              case rel => exact ⟨j + 1, n2, by have := HJ.out; omega, by go_num, by omega, HK6.out, HC4.out⟩
      · obtain rfl : j = l.length := by omega
        have hbk := HKK.out.lt
        go_wp2_with fail
        refine (keys_call _ _).mono ?_
        rintro e w6 ⟨rfl, rfl⟩
        go_wp2_with fail
        refine (sorted_call HKK.out (by omega)).mono ?_
        rintro e w7 ⟨v7, rfl, ks, k1, k2, k3, k4⟩
        have HX := Lib.hid (And.intro k1 (And.intro k2 (And.intro k3 k4)))
        clear k1 k2 k3 k4
        go_wp2_with fail
        go_ret
        obtain ⟨k1, k2, k3, k4⟩ := HX.out
        exact ⟨_, rfl, ks, k1, k2, k3.mono fun q hq => by have := HC.out.size; have hq : wr.heap.size ≤ q := hq; omega, HC.out.step k4⟩
end Go.Proofs.YtapmojfebljjnaaGreat
set_option linter.unusedVariables false
namespace Go.Proofs.YtapmojfebljjnaaGreat
open Go.RowKit Go.RR

/-- Does a block begin at a place? -/
def firstB (l : List In) (p : Nat) : Bool := decide (p = 0) || decide (p = l.length) || (List.range l.length).any fun q => match l[q]? with
  | some i => cutsB i && (decide (q + 1 = p) || (nxN l q).any fun n => decide (n = p))
  | none => false
theorem firstB_iff (l : List In) (p : Nat) : firstB l p = true ↔ InKeys l l.length (p : Int) := by
  unfold firstB InKeys
  rw [Bool.or_eq_true, Bool.or_eq_true, List.any_eq_true]
  constructor
  · rintro ((h | h) | ⟨q, hq, h⟩)
    · exact .inl (by have := of_decide_eq_true h; omega)
    · exact .inr (.inl (by have := of_decide_eq_true h; omega))
    · have hql := List.mem_range.1 hq
      rw [List.getElem?_eq_getElem hql] at h
      simp only [Bool.and_eq_true, Bool.or_eq_true, List.any_eq_true] at h
      refine .inr (.inr ⟨q, l[q], hql, List.getElem?_eq_getElem hql, h.1, ?_⟩)
      rcases h.2 with h2 | ⟨n, hn, h2⟩
      · exact .inl (by have := of_decide_eq_true h2; omega)
      · have := of_decide_eq_true h2
        subst this
        rw [nextF_nx]
        exact .inr (List.mem_map.2 ⟨n, hn, rfl⟩)
  · rintro (h | h | ⟨q, i, hq, hi, hc, h⟩)
    · exact .inl (.inl (decide_eq_true (by omega)))
    · exact .inl (.inr (decide_eq_true (by omega)))
    · refine .inr ⟨q, List.mem_range.2 hq, ?_⟩
      rw [hi]
      simp only [Bool.and_eq_true, Bool.or_eq_true, List.any_eq_true]
      refine ⟨hc, ?_⟩
      rcases h with h | h
      · exact .inl (decide_eq_true (by omega))
      · rw [nextF_nx] at h
        obtain ⟨n, hn, e⟩ := List.mem_map.1 h
        exact .inr ⟨n, hn, decide_eq_true (by omega)⟩
/-- Where blocks begin, rising, and the end. -/
def begF (l : List In) : List Nat := (List.range (l.length + 1)).filter (firstB l)
theorem range_lt (n : Nat) : (List.range n).Pairwise (· < ·) := List.pairwise_lt_range
theorem begF_lt (l : List In) : (begF l).Pairwise (· < ·) := (range_lt _).filter _
theorem begF_mem {l : List In} {p : Nat} : p ∈ begF l ↔ InKeys l l.length (p : Int) := by
  unfold begF
  rw [List.mem_filter, firstB_iff, List.mem_range]
  exact ⟨fun h => h.2, fun h => ⟨by have := h.in; omega, h⟩⟩
theorem rising_eq : ∀ (a b : List Int), a.Pairwise (· < ·) → b.Pairwise (· < ·) → (∀ x, x ∈ a ↔ x ∈ b) → a = b
  | [], [], _, _, _ => rfl
  | [], y :: b, _, _, h => by have := (h y).2 (List.mem_cons_self ..); simp at this
  | x :: a, [], _, _, h => by have := (h x).1 (List.mem_cons_self ..); simp at this
  | x :: a, y :: b, ha, hb, h => by
    rw [List.pairwise_cons] at ha hb
    have hxy : x = y := by
      have h1 := (h x).1 (List.mem_cons_self ..)
      have h2 := (h y).2 (List.mem_cons_self ..)
      rcases List.mem_cons.1 h1 with h1 | h1
      · exact h1
      · rcases List.mem_cons.1 h2 with h2 | h2
        · exact h2.symm
        · have := hb.1 x h1; have := ha.1 y h2; omega
    subst hxy
    congr 1
    refine rising_eq a b ha.2 hb.2 fun z => ⟨fun hz => ?_, fun hz => ?_⟩
    · rcases List.mem_cons.1 ((h z).1 (List.mem_cons_of_mem _ hz)) with e | e
      · have := ha.1 z hz; omega
      · exact e
    · rcases List.mem_cons.1 ((h z).2 (List.mem_cons_of_mem _ hz)) with e | e
      · have := hb.1 z hz; omega
      · exact e
theorem begins_eq {l : List In} {ks : List Int} (h1 : ks.Pairwise (· < ·)) (h2 : ∀ x, x ∈ ks ↔ InKeys l l.length x) : ks = (begF l).map fun n : Nat => (n : Int) := by
  refine rising_eq _ _ h1 ?_ fun x => ?_
  · rw [List.pairwise_map]
    exact (begF_lt l).imp fun h => by omega
  · rw [h2]
    constructor
    · intro h
      have := h.in
      obtain ⟨n, rfl⟩ := Int.eq_ofNat_of_zero_le this.1
      exact List.mem_map.2 ⟨n, begF_mem.2 h, rfl⟩
    · intro h
      obtain ⟨n, hn, rfl⟩ := List.mem_map.1 h
      exact begF_mem.1 hn
theorem begF_len (l : List In) : (begF l).length ≤ l.length + 1 := by
  unfold begF
  have := List.length_filter_le (firstB l) (List.range (l.length + 1))
  simpa using this
theorem begF_two {l : List In} (h : 0 < l.length) : 2 ≤ (begF l).length := by
  have h0 : 0 ∈ begF l := begF_mem.2 (.inl rfl)
  have h1 : l.length ∈ begF l := begF_mem.2 (.inr (.inl rfl))
  match hb : begF l, h0, h1 with
  | [], h0, _ => simp at h0
  | [x], h0, h1 => simp at h0 h1; omega
  | x :: y :: r, _, _ => simp

/-- Which number has a place among them? -/
def cntN (bs : List Nat) (n : Nat) : Nat := bs.countP fun p => decide (p < n)
def posL (bs : List Nat) (n : Nat) : List Nat := (List.range bs.length).filter fun j => decide (bs.getD j 0 = n)
theorem cntN_at : ∀ {bs : List Nat} {j n : Nat}, bs.Pairwise (· < ·) → bs[j]? = some n → cntN bs n = j
  | [], j, n, _, h => by simp at h
  | b :: bs, 0, n, hp, h => by
    simp at h
    subst h
    rw [List.pairwise_cons] at hp
    unfold cntN
    rw [List.countP_cons, List.countP_eq_zero.2 fun p hp' => by have := hp.1 p hp'; simp; omega]
    simp
  | b :: bs, j + 1, n, hp, h => by
    rw [List.pairwise_cons] at hp
    have h' : bs[j]? = some n := by simpa using h
    have ih := cntN_at hp.2 h'
    have hb := hp.1 n (List.mem_of_getElem? h')
    unfold cntN at ih ⊢
    rw [List.countP_cons, ih]
    simp [hb]
theorem range_one : ∀ (n j : Nat), j < n → (List.range n).filter (fun k => decide (k = j)) = [j]
  | 0, j, h => by omega
  | n + 1, j, h => by
    rw [List.range_succ, List.filter_append]
    by_cases e : j = n
    · subst e
      have : (List.range j).filter (fun k => decide (k = j)) = [] := by
        rw [List.filter_eq_nil_iff]
        intro k hk
        have := List.mem_range.1 hk
        simp; omega
      rw [this]
      simp
    · rw [range_one n j (by omega)]
      have : ¬ n = j := fun h => e h.symm
      simp [this]
theorem posL_at {bs : List Nat} {n : Nat} (hp : bs.Pairwise (· < ·)) (h : n ∈ bs) : posL bs n = [cntN bs n] := by
  obtain ⟨j, hj⟩ := List.mem_iff_getElem?.1 h
  have hjl := (List.getElem?_eq_some_iff.1 hj).1
  have key : ∀ k, k < bs.length → (decide (bs.getD k 0 = n) = decide (k = j)) := by
    intro k hk
    rw [decide_eq_decide]
    have hg : bs[k]? = some (bs.getD k 0) := by rw [List.getD_eq_getElem?_getD, List.getElem?_eq_getElem hk]; rfl
    constructor
    · intro e
      rw [e] at hg
      exact (cntN_at hp hg).symm.trans (cntN_at hp hj)
    · intro e
      subst e
      rw [hj] at hg
      exact (Option.some.inj hg).symm
  rw [cntN_at hp hj]
  unfold posL
  have e1 : (List.range bs.length).filter (fun k => decide (bs.getD k 0 = n)) = (List.range bs.length).filter (fun k => decide (k = j)) :=
    List.filter_congr fun k hk => key k (List.mem_range.1 hk)
  rw [e1]
  exact range_one _ j hjl
/-- What may follow the last instruction of a block begins a block. -/
theorem nexts_in {l : List In} {q : Nat} (hq : q + 1 ∈ begF l) : ∀ n ∈ nxN l q, n ∈ begF l := by
  intro n hn
  have hql : q < l.length := by
    rcases Nat.lt_or_ge q l.length with h | h
    · exact h
    · rw [nxN_out h] at hn; simp at hn
  obtain ⟨i, hi⟩ : ∃ i, l[q]? = some i := ⟨l[q], by simp [hql]⟩
  cases hc : cutsB i
  · have h1 : nextF l (q : Int) = [(q : Int) + 1] := by
      rw [nextF_at hi]
      unfold cutsB jumpB at hc
      simp only [Bool.or_eq_false_iff, decide_eq_false_iff_not] at hc
      unfold follow
      rw [if_neg hc.1.2, if_neg hc.1.1, if_neg hc.2]
    unfold nxN at hn
    rw [h1] at hn
    simp at hn
    have : n = q + 1 := by omega
    rw [this]
    exact hq
  · exact begF_mem.2 (.inr (.inr ⟨q, i, hql, hi, hc, .inr (by rw [nextF_nx]; exact List.mem_map.2 ⟨n, hn, rfl⟩)⟩))

abbrev Bk := Nat × Nat × List Nat
/-- The block of number k, by the reference; by the program. -/
def bkR (l : List In) (k : Nat) : Bk := ((begF l).getD k 0, (begF l).getD (k + 1) 0, (nxN l ((begF l).getD (k + 1) 0 - 1)).flatMap (posL (begF l)))
def bkP (l : List In) (k : Nat) : Bk := ((begF l).getD k 0, (begF l).getD (k + 1) 0, (nxN l ((begF l).getD (k + 1) 0 - 1)).map (cntN (begF l)))
theorem bk_eq {l : List In} {k : Nat} (hk : k + 1 < (begF l).length) : bkR l k = bkP l k := by
  have hm : (begF l).getD (k + 1) 0 ∈ begF l := by
    rw [List.getD_eq_getElem?_getD, List.getElem?_eq_getElem hk]
    exact List.getElem_mem _
  have hpos : 0 < (begF l).getD (k + 1) 0 := by
    have h := List.pairwise_iff_getElem.1 (begF_lt l) k (k + 1) (by omega) hk (by omega)
    rw [List.getD_eq_getElem?_getD, List.getElem?_eq_getElem hk]
    simp only [Option.getD_some]
    omega
  have hin := nexts_in (l := l) (q := (begF l).getD (k + 1) 0 - 1) (by rw [show (begF l).getD (k + 1) 0 - 1 + 1 = (begF l).getD (k + 1) 0 by omega]; exact hm)
  unfold bkR bkP
  refine Prod.ext rfl (Prod.ext rfl ?_)
  simp only
  generalize nxN l ((begF l).getD (k + 1) 0 - 1) = ns at *
  have : ∀ ns : List Nat, (∀ n ∈ ns, n ∈ begF l) → ns.flatMap (posL (begF l)) = ns.map (cntN (begF l)) := by
    intro ns
    induction ns with
    | nil => intro _; rfl
    | cons n ns ih =>
      intro h
      rw [List.flatMap_cons, posL_at (begF_lt l) (h n (List.mem_cons_self ..)), ih fun m hm => h m (List.mem_cons_of_mem _ hm)]
      rfl
  exact this ns hin
/-- The blocks of a program. -/
def blocksF (l : List In) : List Bk := if l.length = 0 then [] else (List.range ((begF l).length - 1)).map (bkR l)
theorem blocksF_P {l : List In} (h : l.length ≠ 0) : blocksF l = (List.range ((begF l).length - 1)).map (bkP l) := by
  unfold blocksF
  rw [if_neg h]
  refine List.map_congr_left fun k hk => bk_eq ?_
  have := List.mem_range.1 hk
  omega
end Go.Proofs.YtapmojfebljjnaaGreat
