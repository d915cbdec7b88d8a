/- Maps with integer keys, as lists of pairs: look-up, store, delete, length. No condition. -/
import Derived.Test.YtdkplhdinklflaaKit
import Derived.Maps.OwnOps
set_option linter.unusedVariables false
namespace Go.RR
open Go.RowKit

/-- Block b is a map whose entries are m, in their order. -/
def MapAt (w : World) (b : Nat) (k : IntKind) (m : List (Int × Value)) : Prop :=
  ∃ es clock, w.heap[b]? = some (.map es clock) ∧ es.toList.map (fun e => (e.key, e.val)) = m.map fun p => (Value.int k p.1, p.2)

def mlook (m : List (Int × Value)) (a : Int) : Option Value := (m.find? fun p => p.1 == a).map (·.2)
def mdrop : List (Int × Value) → Int → List (Int × Value)
  | [], _ => []
  | p :: m, a => if p.1 = a then m else p :: mdrop m a
def mput : List (Int × Value) → Int → Value → List (Int × Value)
  | [], a, v => [(a, v)]
  | p :: m, a, v => if p.1 = a then (a, v) :: m else p :: mput m a v

section
variable {w w' : World} {b : Nat} {k : IntKind} {m : List (Int × Value)} {P : Program}

theorem MapAt.lt (h : MapAt w b k m) : b < w.heap.size := by obtain ⟨es, c, h, _⟩ := h; exact (Array.getElem?_eq_some_iff.1 h).1
theorem MapAt.chg {S : Nat → Prop} (h : MapAt w b k m) (c : Chg S w w') (hn : ¬ S b) : MapAt w' b k m := by
  have := h.lt
  obtain ⟨es, cl, h1, h2⟩ := h
  exact ⟨es, cl, (c.block b this hn).trans h1, h2⟩
theorem MapAt.new (w : World) (k : IntKind) : MapAt (w.alloc (.map #[] 0)) w.heap.size k [] := ⟨#[], 0, heap_alloc_new w _, rfl⟩

/-- Where a key lies. -/
def midx : List (Int × Value) → Int → Option Nat
  | [], _ => none
  | p :: m, a => if p.1 = a then some 0 else (midx m a).map (· + 1)

theorem map_erase {α β : Type} (f : α → β) : ∀ (l : List α) (j : Nat), (l.eraseIdx j).map f = (l.map f).eraseIdx j
  | [], _ => rfl
  | _ :: _, 0 => rfl
  | x :: l, j + 1 => by simp [map_erase f l j]

theorem findNow_of (a : Int) : ∀ (es : List MapEntry) (m : List (Int × Value)) (i : Nat), es.map (fun e => (e.key, e.val)) = m.map (fun p => (Value.int k p.1, p.2)) →
    Instr.findNow (.int k) (.int k a) es i = some ((midx m a).bind fun j => (m[j]?).map fun p => (i + j, p.2))
  | [], [], i, _ => rfl
  | [], p :: m, i, h => by simp at h
  | e :: es, [], i, h => by simp at h
  | e :: es, p :: m, i, h => by
    simp only [List.map_cons, List.cons.injEq, Prod.mk.injEq] at h
    obtain ⟨⟨h1, h2⟩, h3⟩ := h
    simp only [Instr.findNow, h1, Instr.sameNow, if_true]
    by_cases hp : p.1 = a
    · subst hp
      simp [midx, h2]
    · have : (a == p.1) = false := by simp; omega
      rw [this]
      simp only
      rw [findNow_of a es m (i + 1) h3]
      simp only [midx, if_neg hp]
      cases hm : midx m a with
      | none => rfl
      | some j => simp [Nat.add_assoc, Nat.add_comm 1 j]

theorem midx_some {a : Int} : ∀ {m : List (Int × Value)} {j : Nat}, midx m a = some j → ∃ v, m[j]? = some (a, v) ∧ mlook m a = some v ∧ m.eraseIdx j = mdrop m a ∧ ∀ v, m.set j (a, v) = mput m a v
  | [], j, h => by simp [midx] at h
  | p :: m, j, h => by
    by_cases hp : p.1 = a
    · simp only [midx, if_pos hp, Option.some.injEq] at h
      subst h
      exact ⟨p.2, by simp [← hp], by simp [mlook, hp], by simp [mdrop, hp], fun v => by simp [mput, hp]⟩
    · simp only [midx, if_neg hp] at h
      obtain ⟨j', h1, rfl⟩ := Option.map_eq_some_iff.1 h
      obtain ⟨v, k1, k2, k3, k4⟩ := midx_some h1
      have hb : (p.1 == a) = false := by simpa using hp
      exact ⟨v, by simpa using k1, by simpa [mlook, hb] using k2, by simp [mdrop, hp, k3], fun v => by simp [mput, hp, k4]⟩
theorem midx_none {a : Int} : ∀ {m : List (Int × Value)}, midx m a = none → mlook m a = none ∧ mdrop m a = m ∧ ∀ v, mput m a v = m ++ [(a, v)]
  | [], _ => ⟨rfl, rfl, fun _ => rfl⟩
  | p :: m, h => by
    by_cases hp : p.1 = a
    · simp [midx, hp] at h
    · simp only [midx, if_neg hp, Option.map_eq_none_iff] at h
      obtain ⟨k1, k2, k3⟩ := midx_none h
      have hb : (p.1 == a) = false := by simpa using hp
      exact ⟨by simpa [mlook, hb] using k1, by simp [mdrop, hp, k2], fun v => by simp [mput, hp, k3]⟩

theorem run_findKey {kt : TypeId} (ht : P.underlying kt = some (.int k)) (a : Int) (es : List MapEntry) (hm : es.map (fun e => (e.key, e.val)) = m.map (fun p => (Value.int k p.1, p.2))) :
    (Instr.findKey kt (.int k a) es).run P w = .ok ((midx m a).bind fun j => (m[j]?).map fun p => (j, p.2)) w := by
  simp only [Instr.findKey, Sem.run_bind, run_underlying ht, Result.andThen_ok, findNow_of a es m 0 hm, Sem.run_pure, Nat.zero_add]

theorem run_checkKey {kt : TypeId} (ht : P.underlying kt = some (.int k)) (e : Bool) (a : Int) : (Instr.checkKey e 10000 kt (.int k a)).run P w = .ok () w := by
  unfold Instr.checkKey
  simp [run_underlying ht]

theorem run_look2 {t kt e : TypeId} {i : TypeInfo} {z : Value} (ht : P.underlying t = some (.map kt e)) (hk : P.underlying kt = some (.int k)) (hi : P.info? e = some i) (hz : i.zero = some z) (h : MapAt w b k m) (a : Int) :
    (Instr.lookup t (.map (some b)) (.int k a) true).run P w = .ok (.tuple #[(mlook m a).getD z, .bool (mlook m a).isSome]) w := by
  obtain ⟨es, c, h1, h2⟩ := h
  have hg : (getObj b).run P w = .ok (.map es c) w := by simp [getObj, Sem.run, h1]
  have hf := run_findKey (P := P) (w := w) hk a es.toList h2
  have hc := run_checkKey (P := P) (w := w) hk es.isEmpty a
  cases hm : midx m a with
  | none =>
    obtain ⟨k1, -, -⟩ := midx_none hm
    rw [hm] at hf
    simp only [Option.bind_none] at hf
    simp [Instr.lookup, run_underlying ht, hg, hc, hf, zeroValue, typeInfo, hi, hz, k1]
  | some j =>
    obtain ⟨v, k1, k2, -, -⟩ := midx_some hm
    rw [hm] at hf
    simp only [Option.bind_some, k1, Option.map_some] at hf
    simp [Instr.lookup, run_underlying ht, hg, hc, hf, k2]
theorem run_look1 {t kt e : TypeId} {i : TypeInfo} {z : Value} (ht : P.underlying t = some (.map kt e)) (hk : P.underlying kt = some (.int k)) (hi : P.info? e = some i) (hz : i.zero = some z) (h : MapAt w b k m) (a : Int) :
    (Instr.lookup t (.map (some b)) (.int k a) false).run P w = .ok ((mlook m a).getD z) w := by
  obtain ⟨es, c, h1, h2⟩ := h
  have hg : (getObj b).run P w = .ok (.map es c) w := by simp [getObj, Sem.run, h1]
  have hf := run_findKey (P := P) (w := w) hk a es.toList h2
  have hc := run_checkKey (P := P) (w := w) hk es.isEmpty a
  cases hm : midx m a with
  | none =>
    obtain ⟨k1, -, -⟩ := midx_none hm
    rw [hm] at hf
    simp only [Option.bind_none] at hf
    simp [Instr.lookup, run_underlying ht, hg, hc, hf, zeroValue, typeInfo, hi, hz, k1]
  | some j =>
    obtain ⟨v, k1, k2, -, -⟩ := midx_some hm
    rw [hm] at hf
    simp only [Option.bind_some, k1, Option.map_some] at hf
    simp [Instr.lookup, run_underlying ht, hg, hc, hf, k2]

theorem run_maplen {t kt e ty : TypeId} (ht : P.underlying t = some (.map kt e)) (h : MapAt w b k m) : (Builtin.len_ #[t] ty #[.map (some b)]).run P w = .ok (.int .i64 m.length) w := by
  obtain ⟨es, c, h1, h2⟩ := h
  have hg : (getObj b).run P w = .ok (.map es c) w := by simp [getObj, Sem.run, h1]
  have hl : es.size = m.length := by have := congrArg List.length h2; simpa using this
  simp [Builtin.len_, run_underlying ht, hg, hl, goInt]

/-- A world with another map in block b. -/
def setMap (w : World) (b : Nat) (es : Array MapEntry) (c : Nat) : World := { w with heap := w.heap.setIfInBounds b (.map es c) }

theorem setMap_at {es : Array MapEntry} {c : Nat} {es' : Array MapEntry} {c' : Nat} (h : w.heap[b]? = some (.map es c)) : (setMap w b es' c').heap[b]? = some (.map es' c') := by
  have := (Array.getElem?_eq_some_iff.1 h).1
  simp [setMap, this]
theorem setMap_chg (w : World) (b : Nat) (es : Array MapEntry) (c : Nat) : Chg (· = b) w (setMap w b es c) :=
  ⟨rfl, rfl, rfl, by simp [setMap], fun k hk hn => by simp only [setMap]; rw [Array.getElem?_setIfInBounds_ne (fun e => hn e.symm)]⟩

theorem run_mapdel {t kt e : TypeId} (ht : P.underlying t = some (.map kt e)) (hk : P.underlying kt = some (.int k)) (h : MapAt w b k m) (a : Int) (ty : TypeId) (t2 : TypeId) :
    ∃ w', (Builtin.delete_ #[t, t2] ty #[.map (some b), .int k a]).run P w = .ok (.tuple #[]) w' ∧ MapAt w' b k (mdrop m a) ∧ Chg (· = b) w w' := by
  obtain ⟨es, c, h1, h2⟩ := h
  have hg : (getObj b).run P w = .ok (.map es c) w := by simp [getObj, Sem.run, h1]
  have hs : ∀ o, (setObj b o).run P w = .ok () { w with heap := w.heap.setIfInBounds b o } := fun o => by simp [setObj, Sem.run, h1]
  have hf := run_findKey (P := P) (w := w) hk a es.toList h2
  have hc := run_checkKey (P := P) (w := w) hk es.isEmpty a
  cases hm : midx m a with
  | none =>
    obtain ⟨-, k1, -⟩ := midx_none hm
    rw [hm] at hf
    simp only [Option.bind_none] at hf
    refine ⟨setMap w b es c, by simp [Builtin.delete_, run_underlying ht, hg, hc, hf, hs, setMap], ⟨es, c, setMap_at h1, by rw [k1]; exact h2⟩, setMap_chg _ _ _ _⟩
  | some j =>
    obtain ⟨v, k1, k2, k3, -⟩ := midx_some hm
    rw [hm] at hf
    simp only [Option.bind_some, k1, Option.map_some] at hf
    refine ⟨setMap w b (es.eraseIdxIfInBounds j) c, by simp [Builtin.delete_, run_underlying ht, hg, hc, hf, hs, setMap], ⟨_, c, setMap_at h1, ?_⟩, setMap_chg _ _ _ _⟩
    have hl : es.size = m.length := by have := congrArg List.length h2; simpa using this
    have hj : j < es.size := by rw [hl]; exact (List.getElem?_eq_some_iff.1 k1).1
    have e1 : (es.eraseIdxIfInBounds j).toList = es.toList.eraseIdx j := by simp [Array.eraseIdxIfInBounds, hj]
    rw [e1, ← k3, map_erase, map_erase, h2]

theorem run_mapput {t kt e : TypeId} (ht : P.underlying t = some (.map kt e)) (hk : P.underlying kt = some (.int k)) (h : MapAt w b k m) (a : Int) (v : Value) :
    ∃ w', (Instr.mapUpdate t (.map (some b)) (.int k a) v).run P w = .ok () w' ∧ MapAt w' b k (mput m a v) ∧ Chg (· = b) w w' := by
  obtain ⟨es, c, h1, h2⟩ := h
  have hg : (getObj b).run P w = .ok (.map es c) w := by simp [getObj, Sem.run, h1]
  have hs : ∀ o, (setObj b o).run P w = .ok () { w with heap := w.heap.setIfInBounds b o } := fun o => by simp [setObj, Sem.run, h1]
  have hf := run_findKey (P := P) (w := w) hk a es.toList h2
  have hc := run_checkKey (P := P) (w := w) hk false a
  cases hm : midx m a with
  | none =>
    obtain ⟨-, -, k1⟩ := midx_none hm
    rw [hm] at hf
    simp only [Option.bind_none] at hf
    refine ⟨setMap w b (es.push { key := .int k a, val := v, born := c }) (c + 1), by simp [Instr.mapUpdate, run_underlying ht, hg, hc, hf, hs, setMap], ⟨_, _, setMap_at h1, ?_⟩, setMap_chg _ _ _ _⟩
    rw [k1 v]; simp [h2]
  | some j =>
    obtain ⟨u, k1, k2, -, k3⟩ := midx_some hm
    rw [hm] at hf
    simp only [Option.bind_some, k1, Option.map_some] at hf
    have hl : es.size = m.length := by have := congrArg List.length h2; simpa using this
    have hj : j < es.size := by rw [hl]; exact (List.getElem?_eq_some_iff.1 k1).1
    have hkey : (es[j]?.map (·.key)).getD (.int k a) = .int k a := by
      have : (es.toList.map fun e => (e.key, e.val))[j]? = some (.int k a, u) := by rw [h2, List.getElem?_map, k1]; rfl
      rw [List.getElem?_map, Array.getElem?_toList] at this
      cases he : es[j]? with
      | none => rfl
      | some e => rw [he] at this; simp at this; simp [this.1]
    have hst : (Instr.keyThatStays (.int k a) (.int k a)).run P w = .ok (.int k a) w := by simp [Instr.keyThatStays, Instr.sameBits]
    refine ⟨setMap w b (es.modify j fun e => { e with key := .int k a, val := v }) c, by simp only [Instr.mapUpdate, Sem.run_bind, run_underlying ht, Result.andThen_ok, hg, hc, hf, hkey, hst, hs, setMap], ⟨_, c, setMap_at h1, ?_⟩, setMap_chg _ _ _ _⟩
    rw [← k3 v]
    apply List.ext_getElem?
    intro i
    rw [List.getElem?_map, Array.getElem?_toList, Array.getElem?_modify, List.getElem?_map, List.getElem?_set]
    have hi : (es.toList.map fun e => (e.key, e.val))[i]? = (m.map fun p => (Value.int k p.1, p.2))[i]? := by rw [h2]
    rw [List.getElem?_map, List.getElem?_map, Array.getElem?_toList] at hi
    by_cases hij : j = i
    · subst hij
      have hjm : j < m.length := by omega
      simp [hj, hjm]
    · simp only [if_neg hij]
      exact hi

theorem wpList_mapdel {ops : Array Oper} {rest : List Oper} {o : Oper} {a : Act} {Q : Exit → Act → World → Prop} (hgd : o.guard = none) (s x : Operand) (t t2 kt e : TypeId)
    (ho : o.op = .call { callee := .builtin .delete, args := #[s, x], argTypes := #[t, t2] })
    (ht : P.underlying t = some (.map kt e)) (hk : P.underlying kt = some (.int k)) (hs : a.eval s = .map (some b)) (h : MapAt w b k m) (key : Int) (hx : a.eval x = .int k key)
    (hc : ∀ w', MapAt w' b k (mdrop m key) → Chg (· = b) w w' → wpList P ops Q rest (a.put o.dst (.tuple #[])) w') : wpList P ops Q (o :: rest) a w := by
  refine wpList_plain hgd fun K hK => ?_
  obtain ⟨w', hr, h2, h3⟩ := run_mapdel (P := P) ht hk h key o.type t2
  unfold Oper.wp execOp
  simp only [ho, resolve, invoke, builtin, Sem.run_bind, Sem.run_pure, Result.andThen_ok, List.map_toArray, List.map_cons, List.map_nil, hs, hx, hr]
  exact hK _ _ (hc w' h2 h3)

theorem wpList_mapput {ops : Array Oper} {rest : List Oper} {o : Oper} {a : Act} {Q : Exit → Act → World → Prop} (hgd : o.guard = none) (s x y : Operand) (t kt e : TypeId)
    (ho : o.op = .mapUpdate t s x y) (ht : P.underlying t = some (.map kt e)) (hk : P.underlying kt = some (.int k)) (hs : a.eval s = .map (some b)) (h : MapAt w b k m) (key : Int) (hx : a.eval x = .int k key) (v : Value) (hy : a.eval y = v)
    (hc : ∀ w', MapAt w' b k (mput m key v) → Chg (· = b) w w' → wpList P ops Q rest (a.put o.dst undef) w') : wpList P ops Q (o :: rest) a w := by
  refine wpList_plain hgd fun K hK => ?_
  obtain ⟨w', hr, h2, h3⟩ := run_mapput (P := P) ht hk h key v
  have hc2 := hK _ _ (hc w' h2 h3)
  unfold Oper.wp execOp
  simp [ho, hs, hx, hy, hr, Oper.upon]
  exact hc2
end
end Go.RR
