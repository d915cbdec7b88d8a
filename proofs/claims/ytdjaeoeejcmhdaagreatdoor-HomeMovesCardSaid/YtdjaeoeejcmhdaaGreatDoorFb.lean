/- What an argument that can be read as data looks like: slices and structs of whatever is known of their parts. The frame of a law whose row lists variables: the call begins in a world that has the program's shape and in which the listed variables read as listed. No condition. -/
import Derived.Test.YtdjaeoeejcmhdaaGreatDoorFa
import Derived.OpenShut
import Derived.ShutString
import Derived.ChangeOld
import Derived.Test.YtdjaeoeejcmhdaaGreatDoorRows
import Derived.ProofKit
import Derived.LaidMore
import Derived.LaidHandle
import Derived.HandedShaped
import Derived.Handed
set_option linter.unusedVariables false
set_option linter.unusedSimpArgs false
namespace Go.RR
open Go.RowKit

section
variable {H : Type} {enc : TypeId × Value → H} {P : Program} {w : World}

theorem choose_list {α : Type} : ∀ (n : Nat) (Q : Nat → α → Prop), (∀ i, i < n → ∃ c, Q i c) → ∃ l : List α, l.length = n ∧ ∀ i c, l[i]? = some c → Q i c
  | 0, _, _ => ⟨[], rfl, fun i c h => by simp at h⟩
  | n + 1, Q, h => by
    obtain ⟨c, hc⟩ := h 0 (by omega)
    obtain ⟨l, hl, hq⟩ := choose_list n (fun i => Q (i + 1)) (fun i hi => h (i + 1) (by omega))
    refine ⟨c :: l, by simp [hl], fun i d hd => ?_⟩
    cases i with
    | zero => simp at hd; subst hd; exact hc
    | succ i => exact hq i d (by simpa using hd)

theorem flat_length {α : Type} (size : Nat) : ∀ (ess : List (List α)), (∀ c ∈ ess, c.length = size) → ess.flatten.length = ess.length * size
  | [], _ => by simp
  | c :: ess, h => by
    rw [List.flatten_cons, List.length_append, h c (by simp), flat_length size ess (fun d hd => h d (by simp [hd])), List.length_cons, Nat.add_mul]; omega

theorem flat_get {α : Type} (size : Nat) : ∀ (ess : List (List α)), (∀ c ∈ ess, c.length = size) → ∀ j u, ess.flatten[j]? = some u → ∃ i r c, ess[i]? = some c ∧ c[r]? = some u ∧ j = i * size + r
  | [], _, j, u, h => by simp at h
  | c :: ess, hs, j, u, h => by
    rw [List.flatten_cons, List.getElem?_append] at h
    have hc := hs c (by simp)
    split at h
    · exact ⟨0, j, c, rfl, h, by omega⟩
    · obtain ⟨i, r, d, h1, h2, h3⟩ := flat_get size ess (fun d hd => hs d (by simp [hd])) _ u h
      exact ⟨i + 1, r, d, by simpa using h1, h2, by rw [Nat.add_mul]; omega⟩

/-- One fuelled reading of the cells cs as type t (an argument's: from block 0 on, spare room read too). -/
abbrev Rd (enc : TypeId × Value → H) (P : Program) (w : World) (t : TypeId) (cs : List Value) : Prop := ∃ fuel x, DataW.trod enc P w 0 (fun _ => true) true fuel t cs = some x

theorem Rd.of {t : TypeId} {v : Value} {d : DataW H} {ps : List MemPlace} (h : DataW.Trod enc P w 0 (fun _ => true) true t v d ps) : Rd enc P w t v.cells.toList := by
  obtain ⟨n, h⟩ := h; exact ⟨n, _, h⟩

theorem Rd.int {t : TypeId} {k : IntKind} {cs : List Value} (ht : P.underlying t = some (.int k)) (h : Rd enc P w t cs) : ∃ n, cs = [.int k n] ∧ (Lit.int k n).wf = true := by
  obtain ⟨n, x, h⟩ := h
  obtain ⟨m, e, _, wf⟩ := DataW.trod_int ht h
  exact ⟨m, e, wf⟩
theorem Rd.bool {t : TypeId} {cs : List Value} (ht : P.underlying t = some .bool) (h : Rd enc P w t cs) : ∃ b, cs = [.bool b] := by
  obtain ⟨n, x, h⟩ := h
  obtain ⟨m, e, _⟩ := DataW.trod_bool ht h
  exact ⟨m, e⟩
theorem Rd.string {t : TypeId} {cs : List Value} (ht : P.underlying t = some .string) (h : Rd enc P w t cs) : ∃ s, cs = [.string s] ∧ s.size ≤ maxLen := by
  obtain ⟨n, x, h⟩ := h
  obtain ⟨m, e, _, hs⟩ := DataW.trod_string ht h
  exact ⟨m, e, hs⟩

/-- A slice: its elements' cells, one list each. -/
theorem Rd.slice {t e : TypeId} {cs : List Value} (size : Nat) (ht : P.underlying t = some (.slice e)) (hc : P.cellsOf e = size) (hs0 : 0 < size) (h : Rd enc P w t cs) :
    ∃ p n cap, cs = [.slice p n cap] ∧ n ≤ 9223372036854775807 ∧ ∃ ess : List (List Value), ess.length = n ∧ (∀ c ∈ ess, Rd enc P w e c ∧ c.length = size) ∧ Sl w (fun k => k < w.heap.size) size (.slice p n cap) n ess.flatten := by
  obtain ⟨fuel, x, h⟩ := h
  rcases DataW.trod_slice ht h with ⟨rfl, -⟩ | ⟨a, len, cap, elems, rest, n, -, rfl, -, -, hl, hm, hlen, hel, -, -⟩
  · exact ⟨none, 0, 0, rfl, by omega, [], rfl, by simp, Sl.nil _ _ _⟩
  · rw [hc] at hel
    have each : ∀ i, i < len → ∃ c, w.cells? 0 (a.add (i * size)) size = some c ∧ Rd enc P w e c := fun i hi => by
      have := hel i hi
      have hx : elems[i]? = some elems[i] := List.getElem?_eq_getElem (by omega)
      rw [hx] at this
      obtain ⟨c, h1, h2⟩ := Option.bind_eq_some_iff.1 this
      exact ⟨c, h1, n, _, h2⟩
    obtain ⟨ess, hess, hall⟩ := choose_list len _ each
    have hlen2 : ∀ c ∈ ess, Rd enc P w e c ∧ c.length = size := fun c hc => by
      obtain ⟨i, hi, rfl⟩ := List.getElem_of_mem hc
      obtain ⟨h1, h2⟩ := hall i _ (List.getElem?_eq_getElem hi)
      exact ⟨h2, (World.cells?_some h1).2.1⟩
    refine ⟨some a, len, cap, rfl, by unfold maxLen at hm; omega, ess, hess, hlen2, ⟨?_, some a, cap, rfl, hl, fun h0 => ?_⟩⟩
    · rw [flat_length _ _ (fun c hc => (hlen2 c hc).2), hess]
    · obtain ⟨b, o, sp⟩ := a
      have first : ∃ u, w.cell? (Addr.add ⟨b, o, sp⟩ 0) = some u := by
        obtain ⟨h1, -⟩ := hall 0 ess[0] (List.getElem?_eq_getElem (by omega))
        obtain ⟨-, h2, h3⟩ := World.cells?_some h1
        have := h3 0 hs0
        rw [Nat.zero_mul] at this
        refine ⟨ess[0][0], ?_⟩
        rw [List.getElem?_eq_getElem (by omega)] at this
        simpa [Addr.add] using this
      cases sp with
      | some s => obtain ⟨u, hu⟩ := first; simp only [Addr.add, if_true] at hu; rw [cell_spot] at hu; cases hu
      | none =>
        obtain ⟨u, hu⟩ := first
        rw [Addr.add_lit] at hu
        have hb := World.block_lt_of_cell? w _ hu
        refine ⟨b, o, rfl, hb, hb, fun j u hu => ?_⟩
        obtain ⟨i, r, c, h1, h2, rfl⟩ := flat_get size _ (fun c hc => (hlen2 c hc).2) j u hu
        obtain ⟨h3, -⟩ := hall i c h1
        obtain ⟨-, h4, h5⟩ := World.cells?_some h3
        have := h5 r (by have := (List.getElem?_eq_some_iff.1 h2).1; omega)
        rw [h2, Addr.add_lit, Addr.add_lit, Nat.add_assoc] at this
        exact this

theorem list_of {α β : Type} (f : α → β) (Q : α → Prop) : ∀ (l : List β), (∀ c ∈ l, ∃ n, c = f n ∧ Q n) → ∃ zs : List α, l = zs.map f ∧ ∀ n ∈ zs, Q n
  | [], _ => ⟨[], rfl, by simp⟩
  | c :: l, h => by
    obtain ⟨n, h1, h2⟩ := h c (by simp)
    obtain ⟨zs, h3, h4⟩ := list_of f Q l fun d hd => h d (by simp [hd])
    exact ⟨n :: zs, by simp [h1, h3], by simp [h2]; exact h4⟩
theorem flat_one {α : Type} (f : α → Value) : ∀ zs : List α, (zs.map fun n => [f n]).flatten = zs.map f
  | [] => rfl
  | n :: zs => by simp [flat_one f zs]

/-- A slice of integers. -/
theorem Rd.ints {t e : TypeId} {k : IntKind} {a : Option Addr} {len cap : Nat} (ht : P.underlying t = some (.slice e)) (he : P.underlying e = some (.int k)) (hc : P.cellsOf e = 1) (h : Rd enc P w t [.slice a len cap]) :
    ∃ zs : List Int, zs.length = len ∧ (∀ n ∈ zs, (Lit.int k n).wf = true) ∧ len ≤ 9223372036854775807 ∧ Sl w (fun k => k < w.heap.size) 1 (.slice a len cap) zs.length (zs.map (Value.int k)) := by
  obtain ⟨p, n, c, e1, hn, ess, hl, hall, hs⟩ := h.slice 1 ht hc (by decide)
  cases e1
  obtain ⟨zs, h1, h2⟩ := list_of (fun n => [Value.int k n]) (fun n => (Lit.int k n).wf = true) ess fun c hc => by
    obtain ⟨n, h1, h2⟩ := (hall c hc).1.int he
    exact ⟨n, h1, h2⟩
  have hlen : zs.length = len := by rw [← hl, h1]; simp
  rw [h1, flat_one] at hs
  exact ⟨zs, hlen, h2, hn, by rw [hlen]; exact hs⟩
end
end Go.RR
set_option linter.unusedVariables false
set_option linter.unusedSimpArgs false
namespace Go.Proofs.YtdjaeoeejcmhdaaGreatDoor
open Go

theorem returns_both {H : Type} {enc : TypeId × Value → H} {C : Checked} {os : Os} {f : FuncId} {fn : Func} {s : ChangeSpec} {conds : List PathCond} {apart fresh handsOn again : Bool} {X : World → Array Value → Prop}
    (hX : ∀ (w w' : World) (args : Array Value), w.heap = w'.heap → X w args → X w' args)
    (own : ownKnob C.prog.godebug = none) (started : os.Started) (noInit : C.prog.inits.idxOf? f = none) (hfn : C.prog.funcs[f]? = some fn)
    (witness : ∃ (w : World) (tape : Tape) (i : Input), w.os = os ∧ (w.forCall tape i).Shaped C.prog ∧ i.vars = [] ∧ Input.okWide C.prog (w.forCall tape i) .any w.heap.size f i ∧
      ((s.pre enc C.prog fn conds apart (w.forCall tape i).memory i.args ∧ X (w.forCall tape i).memory i.args) ∧ sizedMet enc C.prog fn (OpenSpec.ofChange s) apart (w.forCall tape i).memory i.args) ∧ ({} : Assume).holds C.prog (lone (Frame.enter C.prog f i.args .normal) [] (w.forCall tape i)))
    (contract : ∀ (W : World) (base : Nat) (args : Array Value) (ds gs : List (DataW H)) (before : List MemPlace),
      (∀ (j : Nat) t v, fn.params[j]? = some t → args[j]? = some v → Value.okWide C.prog W .any base t v) →
      DataW.Whole enc C.prog fn.params.toList s.vars apart W args.toList ds gs before →
      W.ShapedOpen C.prog → X W args →
      Calls C.prog f args W fun e W' => ∃ v, e = .returned v ∧ s.post enc C.prog fn apart fresh handsOn again W args v W') :
    ReturnsInHanded {} C os f .any (fun w args => (s.pre enc C.prog fn conds apart w args ∧ X w args) ∧ sizedMet enc C.prog fn (OpenSpec.ofChange s) apart w args) (s.post enc C.prog fn apart fresh handsOn again) := by
  refine returnsInHanded_of_calls own started noInit witness ?_
  intro w tape i _ hsh _ hok hpre hholds
  obtain ⟨_, _, _, fn', hfn', _, _, _, _, hval⟩ := hok
  have e : fn' = fn := Option.some.inj (hfn'.symm.trans hfn)
  subst e
  obtain ⟨⟨⟨ds, gs, before, hw, hc⟩, hx⟩, hz⟩ := hpre
  have hw' := DataW.Whole.of_heap (w' := w.forCall tape i) (by rfl) hw
  refine (contract (w.forCall tape i) w.heap.size i.args ds gs before hval hw' hsh (hX _ _ _ (by rfl) hx)).mono fun e W' ⟨v, he, hp⟩ => ?_
  subst he
  exact ChangeSpec.post_blind hp
end Go.Proofs.YtdjaeoeejcmhdaaGreatDoor
