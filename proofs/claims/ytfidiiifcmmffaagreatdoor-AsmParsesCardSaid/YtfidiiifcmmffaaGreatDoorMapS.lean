/- Maps with text keys, as lists of pairs: look-up, store, delete, length. No condition. (XMap at texts.) -/
import Derived.Test.YtfidiiifcmmffaaGreatDoorKit2
import Derived.Maps.OwnOps
set_option linter.unusedVariables false
set_option linter.unusedSimpArgs false
set_option linter.unusedVariables false
namespace Go.RR
open Go.RowKit

theorem bb_iff {a b : ByteArray} : (a == b) = true ↔ a = b := by
  obtain ⟨x⟩ := a
  obtain ⟨y⟩ := b
  constructor
  · intro h
    have h : (x == y) = true := h
    rw [eq_of_beq h]
  · intro h
    cases h
    have h : (x == x) = true := beq_self_eq_true x
    exact h
local instance bb_law : LawfulBEq ByteArray where
  eq_of_beq := fun h => bb_iff.1 h
  rfl := bb_iff.2 rfl

/-- Block b is a map whose entries are m, in their order. -/
def SMapAt (w : World) (b : Nat) (m : List (ByteArray × Value)) : Prop :=
  ∃ es clock, w.heap[b]? = some (.map es clock) ∧ es.toList.map (fun e => (e.key, e.val)) = m.map fun p => (Value.string p.1, p.2)

def smlook (m : List (ByteArray × Value)) (a : ByteArray) : Option Value := (m.find? fun p => p.1 == a).map (·.2)
def smdrop : List (ByteArray × Value) → ByteArray → List (ByteArray × Value)
  | [], _ => []
  | p :: m, a => if p.1 = a then m else p :: smdrop m a
def smput : List (ByteArray × Value) → ByteArray → Value → List (ByteArray × Value)
  | [], a, v => [(a, v)]
  | p :: m, a, v => if p.1 = a then (a, v) :: m else p :: smput m a v

section
variable {w w' : World} {b : Nat} {m : List (ByteArray × Value)} {P : Program}

theorem SMapAt.lt (h : SMapAt w b m) : b < w.heap.size := by obtain ⟨es, c, h, _⟩ := h; exact (Array.getElem?_eq_some_iff.1 h).1
theorem SMapAt.chg {S : Nat → Prop} (h : SMapAt w b m) (c : Chg S w w') (hn : ¬ S b) : SMapAt w' b m := by
  have := h.lt
  obtain ⟨es, cl, h1, h2⟩ := h
  exact ⟨es, cl, (c.block b this hn).trans h1, h2⟩
theorem SMapAt.new (w : World) : SMapAt (w.alloc (.map #[] 0)) w.heap.size [] := ⟨#[], 0, heap_alloc_new w _, rfl⟩

/-- Where a key lies. -/
def smidx : List (ByteArray × Value) → ByteArray → Option Nat
  | [], _ => none
  | p :: m, a => if p.1 = a then some 0 else (smidx m a).map (· + 1)

theorem smlook_put (a b : ByteArray) (v : Value) : ∀ m : List (ByteArray × Value), smlook (smput m a v) b = if a = b then some v else smlook m b
  | [] => by
    by_cases h : a = b
    · simp [smput, smlook, h]
    · simp [smput, smlook, h]
  | p :: m => by
    by_cases hp : p.1 = a
    · subst hp
      by_cases h : p.1 = b
      · simp [smput, smlook, h]
      · simp [smput, smlook, h]
    · have ih := smlook_put a b v m
      simp only [smput, if_neg hp]
      by_cases hb : p.1 = b
      · have : ¬ a = b := fun e => hp (hb.trans e.symm)
        simp [smlook, hb, this]
      · have e1 : smlook (p :: smput m a v) b = smlook (smput m a v) b := by simp [smlook, hb]
        have e2 : smlook (p :: m) b = smlook m b := by simp [smlook, hb]
        rw [e1, e2, ih]

theorem Smap_erase {α β : Type} (f : α → β) : ∀ (l : List α) (j : Nat), (l.eraseIdx j).map f = (l.map f).eraseIdx j
  | [], _ => rfl
  | _ :: _, 0 => rfl
  | x :: l, j + 1 => by simp [Smap_erase f l j]

theorem SfindNow_of (a : ByteArray) : ∀ (es : List MapEntry) (m : List (ByteArray × Value)) (i : Nat), es.map (fun e => (e.key, e.val)) = m.map (fun p => (Value.string p.1, p.2)) →
    Instr.findNow (.string) (.string a) es i = some ((smidx m a).bind fun j => (m[j]?).map fun p => (i + j, p.2))
  | [], [], i, _ => rfl
  | [], p :: m, i, h => by simp at h
  | e :: es, [], i, h => by simp at h
  | e :: es, p :: m, i, h => by
    simp only [List.map_cons, List.cons.injEq, Prod.mk.injEq] at h
    obtain ⟨⟨h1, h2⟩, h3⟩ := h
    simp only [Instr.findNow, h1, Instr.sameNow, if_true]
    by_cases hp : p.1 = a
    · subst hp
      simp [smidx, h2]
    · have : (a == p.1) = false := by
        cases hb : a == p.1 with
        | false => rfl
        | true => exact absurd (bb_iff.1 hb).symm hp
      rw [this]
      simp only
      rw [SfindNow_of a es m (i + 1) h3]
      simp only [smidx, if_neg hp]
      cases hm : smidx m a with
      | none => rfl
      | some j => simp [Nat.add_assoc, Nat.add_comm 1 j]

theorem smidx_some {a : ByteArray} : ∀ {m : List (ByteArray × Value)} {j : Nat}, smidx m a = some j → ∃ v, m[j]? = some (a, v) ∧ smlook m a = some v ∧ m.eraseIdx j = smdrop m a ∧ ∀ v, m.set j (a, v) = smput m a v
  | [], j, h => by simp [smidx] at h
  | p :: m, j, h => by
    by_cases hp : p.1 = a
    · simp only [smidx, if_pos hp, Option.some.injEq] at h
      subst h
      exact ⟨p.2, by simp [← hp], by simp [smlook, hp], by simp [smdrop, hp], fun v => by simp [smput, hp]⟩
    · simp only [smidx, if_neg hp] at h
      obtain ⟨j', h1, rfl⟩ := Option.map_eq_some_iff.1 h
      obtain ⟨v, k1, k2, k3, k4⟩ := smidx_some h1
      have hb : (p.1 == a) = false := by simpa using hp
      exact ⟨v, by simpa using k1, by simpa [smlook, hb] using k2, by simp [smdrop, hp, k3], fun v => by simp [smput, hp, k4]⟩
theorem smidx_none {a : ByteArray} : ∀ {m : List (ByteArray × Value)}, smidx m a = none → smlook m a = none ∧ smdrop m a = m ∧ ∀ v, smput m a v = m ++ [(a, v)]
  | [], _ => ⟨rfl, rfl, fun _ => rfl⟩
  | p :: m, h => by
    by_cases hp : p.1 = a
    · simp [smidx, hp] at h
    · simp only [smidx, if_neg hp, Option.map_eq_none_iff] at h
      obtain ⟨k1, k2, k3⟩ := smidx_none h
      have hb : (p.1 == a) = false := by simpa using hp
      exact ⟨by simpa [smlook, hb] using k1, by simp [smdrop, hp, k2], fun v => by simp [smput, hp, k3]⟩

theorem Srun_findKey {kt : TypeId} (ht : P.underlying kt = some (.string)) (a : ByteArray) (es : List MapEntry) (hm : es.map (fun e => (e.key, e.val)) = m.map (fun p => (Value.string p.1, p.2))) :
    (Instr.findKey kt (.string a) es).run P w = .ok ((smidx m a).bind fun j => (m[j]?).map fun p => (j, p.2)) w := by
  simp only [Instr.findKey, Sem.run_bind, run_underlying ht, Result.andThen_ok, SfindNow_of a es m 0 hm, Sem.run_pure, Nat.zero_add]

theorem Srun_checkKey {kt : TypeId} (ht : P.underlying kt = some (.string)) (e : Bool) (a : ByteArray) : (Instr.checkKey e 10000 kt (.string a)).run P w = .ok () w := by
  unfold Instr.checkKey
  simp [run_underlying ht]

theorem Srun_look2 {t kt e : TypeId} {i : TypeInfo} {z : Value} (ht : P.underlying t = some (.map kt e)) (hk : P.underlying kt = some (.string)) (hi : P.info? e = some i) (hz : i.zero = some z) (h : SMapAt w b m) (a : ByteArray) :
    (Instr.lookup t (.map (some b)) (.string a) true).run P w = .ok (.tuple #[(smlook m a).getD z, .bool (smlook m a).isSome]) w := by
  obtain ⟨es, c, h1, h2⟩ := h
  have hg : (getObj b).run P w = .ok (.map es c) w := by simp [getObj, Sem.run, h1]
  have hf := Srun_findKey (P := P) (w := w) hk a es.toList h2
  have hc := Srun_checkKey (P := P) (w := w) hk es.isEmpty a
  cases hm : smidx m a with
  | none =>
    obtain ⟨k1, -, -⟩ := smidx_none hm
    rw [hm] at hf
    simp only [Option.bind_none] at hf
    simp [Instr.lookup, run_underlying ht, hg, hc, hf, zeroValue, typeInfo, hi, hz, k1]
  | some j =>
    obtain ⟨v, k1, k2, -, -⟩ := smidx_some hm
    rw [hm] at hf
    simp only [Option.bind_some, k1, Option.map_some] at hf
    simp [Instr.lookup, run_underlying ht, hg, hc, hf, k2]
theorem Srun_look1 {t kt e : TypeId} {i : TypeInfo} {z : Value} (ht : P.underlying t = some (.map kt e)) (hk : P.underlying kt = some (.string)) (hi : P.info? e = some i) (hz : i.zero = some z) (h : SMapAt w b m) (a : ByteArray) :
    (Instr.lookup t (.map (some b)) (.string a) false).run P w = .ok ((smlook m a).getD z) w := by
  obtain ⟨es, c, h1, h2⟩ := h
  have hg : (getObj b).run P w = .ok (.map es c) w := by simp [getObj, Sem.run, h1]
  have hf := Srun_findKey (P := P) (w := w) hk a es.toList h2
  have hc := Srun_checkKey (P := P) (w := w) hk es.isEmpty a
  cases hm : smidx m a with
  | none =>
    obtain ⟨k1, -, -⟩ := smidx_none hm
    rw [hm] at hf
    simp only [Option.bind_none] at hf
    simp [Instr.lookup, run_underlying ht, hg, hc, hf, zeroValue, typeInfo, hi, hz, k1]
  | some j =>
    obtain ⟨v, k1, k2, -, -⟩ := smidx_some hm
    rw [hm] at hf
    simp only [Option.bind_some, k1, Option.map_some] at hf
    simp [Instr.lookup, run_underlying ht, hg, hc, hf, k2]

theorem Srun_maplen {t kt e ty : TypeId} (ht : P.underlying t = some (.map kt e)) (h : SMapAt w b m) : (Builtin.len_ #[t] ty #[.map (some b)]).run P w = .ok (.int .i64 m.length) w := by
  obtain ⟨es, c, h1, h2⟩ := h
  have hg : (getObj b).run P w = .ok (.map es c) w := by simp [getObj, Sem.run, h1]
  have hl : es.size = m.length := by have := congrArg List.length h2; simpa using this
  simp [Builtin.len_, run_underlying ht, hg, hl, goInt]

/-- A world with another map in block b. -/
def SsetMap (w : World) (b : Nat) (es : Array MapEntry) (c : Nat) : World := { w with heap := w.heap.setIfInBounds b (.map es c) }

theorem SsetMap_at {es : Array MapEntry} {c : Nat} {es' : Array MapEntry} {c' : Nat} (h : w.heap[b]? = some (.map es c)) : (SsetMap w b es' c').heap[b]? = some (.map es' c') := by
  have := (Array.getElem?_eq_some_iff.1 h).1
  simp [SsetMap, this]
theorem SsetMap_chg (w : World) (b : Nat) (es : Array MapEntry) (c : Nat) : Chg (· = b) w (SsetMap w b es c) :=
  ⟨rfl, rfl, rfl, by simp [SsetMap], fun k hk hn => by simp only [SsetMap]; rw [Array.getElem?_setIfInBounds_ne (fun e => hn e.symm)]⟩

theorem Srun_mapdel {t kt e : TypeId} (ht : P.underlying t = some (.map kt e)) (hk : P.underlying kt = some (.string)) (h : SMapAt w b m) (a : ByteArray) (ty : TypeId) (t2 : TypeId) :
    ∃ w', (Builtin.delete_ #[t, t2] ty #[.map (some b), .string a]).run P w = .ok (.tuple #[]) w' ∧ SMapAt w' b (smdrop m a) ∧ Chg (· = b) w w' := by
  obtain ⟨es, c, h1, h2⟩ := h
  have hg : (getObj b).run P w = .ok (.map es c) w := by simp [getObj, Sem.run, h1]
  have hs : ∀ o, (setObj b o).run P w = .ok () { w with heap := w.heap.setIfInBounds b o } := fun o => by simp [setObj, Sem.run, h1]
  have hf := Srun_findKey (P := P) (w := w) hk a es.toList h2
  have hc := Srun_checkKey (P := P) (w := w) hk es.isEmpty a
  cases hm : smidx m a with
  | none =>
    obtain ⟨-, k1, -⟩ := smidx_none hm
    rw [hm] at hf
    simp only [Option.bind_none] at hf
    refine ⟨SsetMap w b es c, by simp [Builtin.delete_, run_underlying ht, hg, hc, hf, hs, SsetMap], ⟨es, c, SsetMap_at h1, by rw [k1]; exact h2⟩, SsetMap_chg _ _ _ _⟩
  | some j =>
    obtain ⟨v, k1, k2, k3, -⟩ := smidx_some hm
    rw [hm] at hf
    simp only [Option.bind_some, k1, Option.map_some] at hf
    refine ⟨SsetMap w b (es.eraseIdxIfInBounds j) c, by simp [Builtin.delete_, run_underlying ht, hg, hc, hf, hs, SsetMap], ⟨_, c, SsetMap_at h1, ?_⟩, SsetMap_chg _ _ _ _⟩
    have hl : es.size = m.length := by have := congrArg List.length h2; simpa using this
    have hj : j < es.size := by rw [hl]; exact (List.getElem?_eq_some_iff.1 k1).1
    have e1 : (es.eraseIdxIfInBounds j).toList = es.toList.eraseIdx j := by simp [Array.eraseIdxIfInBounds, hj]
    rw [e1, ← k3, Smap_erase, Smap_erase, h2]

theorem Srun_mapput {t kt e : TypeId} (ht : P.underlying t = some (.map kt e)) (hk : P.underlying kt = some (.string)) (h : SMapAt w b m) (a : ByteArray) (v : Value) :
    ∃ w', (Instr.mapUpdate t (.map (some b)) (.string a) v).run P w = .ok () w' ∧ SMapAt w' b (smput m a v) ∧ Chg (· = b) w w' := by
  obtain ⟨es, c, h1, h2⟩ := h
  have hg : (getObj b).run P w = .ok (.map es c) w := by simp [getObj, Sem.run, h1]
  have hs : ∀ o, (setObj b o).run P w = .ok () { w with heap := w.heap.setIfInBounds b o } := fun o => by simp [setObj, Sem.run, h1]
  have hf := Srun_findKey (P := P) (w := w) hk a es.toList h2
  have hc := Srun_checkKey (P := P) (w := w) hk false a
  cases hm : smidx m a with
  | none =>
    obtain ⟨-, -, k1⟩ := smidx_none hm
    rw [hm] at hf
    simp only [Option.bind_none] at hf
    refine ⟨SsetMap w b (es.push { key := .string a, val := v, born := c }) (c + 1), by simp [Instr.mapUpdate, run_underlying ht, hg, hc, hf, hs, SsetMap], ⟨_, _, SsetMap_at h1, ?_⟩, SsetMap_chg _ _ _ _⟩
    rw [k1 v]; simp [h2]
  | some j =>
    obtain ⟨u, k1, k2, -, k3⟩ := smidx_some hm
    rw [hm] at hf
    simp only [Option.bind_some, k1, Option.map_some] at hf
    have hl : es.size = m.length := by have := congrArg List.length h2; simpa using this
    have hj : j < es.size := by rw [hl]; exact (List.getElem?_eq_some_iff.1 k1).1
    have hkey : (es[j]?.map (·.key)).getD (.string a) = .string a := by
      have : (es.toList.map fun e => (e.key, e.val))[j]? = some (.string a, u) := by rw [h2, List.getElem?_map, k1]; rfl
      rw [List.getElem?_map, Array.getElem?_toList] at this
      cases he : es[j]? with
      | none => rfl
      | some e => rw [he] at this; simp at this; simp [this.1]
    have hst : (Instr.keyThatStays (.string a) (.string a)).run P w = .ok (.string a) w := by simp [Instr.keyThatStays, Instr.sameBits]
    refine ⟨SsetMap w b (es.modify j fun e => { e with key := .string a, val := v }) c, by simp only [Instr.mapUpdate, Sem.run_bind, run_underlying ht, Result.andThen_ok, hg, hc, hf, hkey, hst, hs, SsetMap], ⟨_, c, SsetMap_at h1, ?_⟩, SsetMap_chg _ _ _ _⟩
    rw [← k3 v]
    apply List.ext_getElem?
    intro i
    rw [List.getElem?_map, Array.getElem?_toList, Array.getElem?_modify, List.getElem?_map, List.getElem?_set]
    have hi : (es.toList.map fun e => (e.key, e.val))[i]? = (m.map fun p => (Value.string p.1, p.2))[i]? := by rw [h2]
    rw [List.getElem?_map, List.getElem?_map, Array.getElem?_toList] at hi
    by_cases hij : j = i
    · subst hij
      have hjm : j < m.length := by omega
      simp [hj, hjm]
    · simp only [if_neg hij]
      exact hi

theorem wpList_smapdel {ops : Array Oper} {rest : List Oper} {o : Oper} {a : Act} {Q : Exit → Act → World → Prop} (hgd : o.guard = none) (s x : Operand) (t t2 kt e : TypeId)
    (ho : o.op = .call { callee := .builtin .delete, args := #[s, x], argTypes := #[t, t2] })
    (ht : P.underlying t = some (.map kt e)) (hk : P.underlying kt = some (.string)) (hs : a.eval s = .map (some b)) (h : SMapAt w b m) (key : ByteArray) (hx : a.eval x = .string key)
    (hc : ∀ w', SMapAt w' b (smdrop m key) → Chg (· = b) w w' → wpList P ops Q rest (a.put o.dst (.tuple #[])) w') : wpList P ops Q (o :: rest) a w := by
  refine wpList_plain hgd fun K hK => ?_
  obtain ⟨w', hr, h2, h3⟩ := Srun_mapdel (P := P) ht hk h key o.type t2
  unfold Oper.wp execOp
  simp only [ho, resolve, invoke, builtin, Sem.run_bind, Sem.run_pure, Result.andThen_ok, List.map_toArray, List.map_cons, List.map_nil, hs, hx, hr]
  exact hK _ _ (hc w' h2 h3)

theorem wpList_smapput {ops : Array Oper} {rest : List Oper} {o : Oper} {a : Act} {Q : Exit → Act → World → Prop} (hgd : o.guard = none) (s x y : Operand) (t kt e : TypeId)
    (ho : o.op = .mapUpdate t s x y) (ht : P.underlying t = some (.map kt e)) (hk : P.underlying kt = some (.string)) (hs : a.eval s = .map (some b)) (h : SMapAt w b m) (key : ByteArray) (hx : a.eval x = .string key) (v : Value) (hy : a.eval y = v)
    (hc : ∀ w', SMapAt w' b (smput m key v) → Chg (· = b) w w' → wpList P ops Q rest (a.put o.dst undef) w') : wpList P ops Q (o :: rest) a w := by
  refine wpList_plain hgd fun K hK => ?_
  obtain ⟨w', hr, h2, h3⟩ := Srun_mapput (P := P) ht hk h key v
  have hc2 := hK _ _ (hc w' h2 h3)
  unfold Oper.wp execOp
  simp [ho, hs, hx, hy, hr, Oper.upon]
  exact hc2
end
end Go.RR
