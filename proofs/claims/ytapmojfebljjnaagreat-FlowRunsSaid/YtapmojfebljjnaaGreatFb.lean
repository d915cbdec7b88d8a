/- What an argument that can be read as data looks like: slices and structs of whatever is known of their parts. A []Inst that can be read as data. A []uint64 that can be read as data. -/
import Derived.Test.YtapmojfebljjnaaGreatFa
import Derived.OpenShut
import Derived.ShutString
import Derived.ChangeOld
import Derived.Test.YtapmojfebljjnaaGreatHq
import Derived.Test.YtapmojfebljjnaaGreatProg
set_option linter.unusedVariables false
set_option linter.unusedSimpArgs false
namespace Go.RR
open Go.RowKit

section
variable {H : Type} {enc : TypeId × Value → H} {P : Program} {w : World}

theorem choose_list {α : Type} : ∀ (n : Nat) (Q : Nat → α → Prop), (∀ i, i < n → ∃ c, Q i c) → ∃ l : List α, l.length = n ∧ ∀ i c, l[i]? = some c → Q i c
  | 0, _, _ => ⟨[], rfl, fun i c h => by simp at h⟩
  | n + 1, Q, h => by
    obtain ⟨c, hc⟩ := h 0 (by omega)
    obtain ⟨l, hl, hq⟩ := choose_list n (fun i => Q (i + 1)) (fun i hi => h (i + 1) (by omega))
    refine ⟨c :: l, by simp [hl], fun i d hd => ?_⟩
    cases i with
    | zero => simp at hd; subst hd; exact hc
    | succ i => exact hq i d (by simpa using hd)

theorem flat_length {α : Type} (size : Nat) : ∀ (ess : List (List α)), (∀ c ∈ ess, c.length = size) → ess.flatten.length = ess.length * size
  | [], _ => by simp
  | c :: ess, h => by
    rw [List.flatten_cons, List.length_append, h c (by simp), flat_length size ess (fun d hd => h d (by simp [hd])), List.length_cons, Nat.add_mul]; omega

theorem flat_get {α : Type} (size : Nat) : ∀ (ess : List (List α)), (∀ c ∈ ess, c.length = size) → ∀ j u, ess.flatten[j]? = some u → ∃ i r c, ess[i]? = some c ∧ c[r]? = some u ∧ j = i * size + r
  | [], _, j, u, h => by simp at h
  | c :: ess, hs, j, u, h => by
    rw [List.flatten_cons, List.getElem?_append] at h
    have hc := hs c (by simp)
    split at h
    · exact ⟨0, j, c, rfl, h, by omega⟩
    · obtain ⟨i, r, d, h1, h2, h3⟩ := flat_get size ess (fun d hd => hs d (by simp [hd])) _ u h
      exact ⟨i + 1, r, d, by simpa using h1, h2, by rw [Nat.add_mul]; omega⟩

/-- One fuelled reading of the cells cs as type t (an argument's: from block 0 on, spare room read too). -/
abbrev Rd (enc : TypeId × Value → H) (P : Program) (w : World) (t : TypeId) (cs : List Value) : Prop := ∃ fuel x, DataW.trod enc P w 0 (fun _ => true) true fuel t cs = some x

theorem Rd.of {t : TypeId} {v : Value} {d : DataW H} {ps : List MemPlace} (h : DataW.Trod enc P w 0 (fun _ => true) true t v d ps) : Rd enc P w t v.cells.toList := by
  obtain ⟨n, h⟩ := h; exact ⟨n, _, h⟩

theorem Rd.int {t : TypeId} {k : IntKind} {cs : List Value} (ht : P.underlying t = some (.int k)) (h : Rd enc P w t cs) : ∃ n, cs = [.int k n] ∧ (Lit.int k n).wf = true := by
  obtain ⟨n, x, h⟩ := h
  obtain ⟨m, e, _, wf⟩ := DataW.trod_int ht h
  exact ⟨m, e, wf⟩
theorem Rd.bool {t : TypeId} {cs : List Value} (ht : P.underlying t = some .bool) (h : Rd enc P w t cs) : ∃ b, cs = [.bool b] := by
  obtain ⟨n, x, h⟩ := h
  obtain ⟨m, e, _⟩ := DataW.trod_bool ht h
  exact ⟨m, e⟩
theorem Rd.string {t : TypeId} {cs : List Value} (ht : P.underlying t = some .string) (h : Rd enc P w t cs) : ∃ s, cs = [.string s] ∧ s.size ≤ maxLen := by
  obtain ⟨n, x, h⟩ := h
  obtain ⟨m, e, _, hs⟩ := DataW.trod_string ht h
  exact ⟨m, e, hs⟩

/-- A slice: its elements' cells, one list each. -/
theorem Rd.slice {t e : TypeId} {cs : List Value} (size : Nat) (ht : P.underlying t = some (.slice e)) (hc : P.cellsOf e = size) (hs0 : 0 < size) (h : Rd enc P w t cs) :
    ∃ p n cap, cs = [.slice p n cap] ∧ n ≤ 9223372036854775807 ∧ ∃ ess : List (List Value), ess.length = n ∧ (∀ c ∈ ess, Rd enc P w e c ∧ c.length = size) ∧ Sl w (fun k => k < w.heap.size) size (.slice p n cap) n ess.flatten := by
  obtain ⟨fuel, x, h⟩ := h
  rcases DataW.trod_slice ht h with ⟨rfl, -⟩ | ⟨a, len, cap, elems, rest, n, -, rfl, -, -, hl, hm, hlen, hel, -, -⟩
  · exact ⟨none, 0, 0, rfl, by omega, [], rfl, by simp, Sl.nil _ _ _⟩
  · rw [hc] at hel
    have each : ∀ i, i < len → ∃ c, w.cells? 0 (a.add (i * size)) size = some c ∧ Rd enc P w e c := fun i hi => by
      have := hel i hi
      have hx : elems[i]? = some elems[i] := List.getElem?_eq_getElem (by omega)
      rw [hx] at this
      obtain ⟨c, h1, h2⟩ := Option.bind_eq_some_iff.1 this
      exact ⟨c, h1, n, _, h2⟩
    obtain ⟨ess, hess, hall⟩ := choose_list len _ each
    have hlen2 : ∀ c ∈ ess, Rd enc P w e c ∧ c.length = size := fun c hc => by
      obtain ⟨i, hi, rfl⟩ := List.getElem_of_mem hc
      obtain ⟨h1, h2⟩ := hall i _ (List.getElem?_eq_getElem hi)
      exact ⟨h2, (World.cells?_some h1).2.1⟩
    refine ⟨some a, len, cap, rfl, by unfold maxLen at hm; omega, ess, hess, hlen2, ⟨?_, some a, cap, rfl, hl, fun h0 => ?_⟩⟩
    · rw [flat_length _ _ (fun c hc => (hlen2 c hc).2), hess]
    · obtain ⟨b, o, sp⟩ := a
      have first : ∃ u, w.cell? (Addr.add ⟨b, o, sp⟩ 0) = some u := by
        obtain ⟨h1, -⟩ := hall 0 ess[0] (List.getElem?_eq_getElem (by omega))
        obtain ⟨-, h2, h3⟩ := World.cells?_some h1
        have := h3 0 hs0
        rw [Nat.zero_mul] at this
        refine ⟨ess[0][0], ?_⟩
        rw [List.getElem?_eq_getElem (by omega)] at this
        simpa [Addr.add] using this
      cases sp with
      | some s => obtain ⟨u, hu⟩ := first; simp only [Addr.add, if_true] at hu; rw [cell_spot] at hu; cases hu
      | none =>
        obtain ⟨u, hu⟩ := first
        rw [Addr.add_lit] at hu
        have hb := World.block_lt_of_cell? w _ hu
        refine ⟨b, o, rfl, hb, hb, fun j u hu => ?_⟩
        obtain ⟨i, r, c, h1, h2, rfl⟩ := flat_get size _ (fun c hc => (hlen2 c hc).2) j u hu
        obtain ⟨h3, -⟩ := hall i c h1
        obtain ⟨-, h4, h5⟩ := World.cells?_some h3
        have := h5 r (by have := (List.getElem?_eq_some_iff.1 h2).1; omega)
        rw [h2, Addr.add_lit, Addr.add_lit, Nat.add_assoc] at this
        exact this

/-- A struct's fields: each a piece of the cells. -/
theorem Rd.struct {t : TypeId} {fs : Array Field} {cs : List Value} (ht : P.underlying t = some (.struct fs)) (h : Rd enc P w t cs) :
    cs.length = P.cellsOf t ∧ ∀ (i : Nat) (f : Field), fs[i]? = some f → Rd enc P w f.type ((cs.drop f.offset).take (P.cellsOf f.type)) := by
  obtain ⟨fuel, x, h⟩ := h
  obtain ⟨xs, n, -, -, hl, hlen, hf⟩ := DataW.trod_struct ht h
  refine ⟨hl, fun i f hfi => ?_⟩
  have := hf i f hfi
  have hi := (Array.getElem?_eq_some_iff.1 hfi).1
  rw [List.getElem?_eq_getElem (by omega)] at this
  exact ⟨n, _, this⟩
theorem list_of {α β : Type} (f : α → β) (Q : α → Prop) : ∀ (l : List β), (∀ c ∈ l, ∃ n, c = f n ∧ Q n) → ∃ zs : List α, l = zs.map f ∧ ∀ n ∈ zs, Q n
  | [], _ => ⟨[], rfl, by simp⟩
  | c :: l, h => by
    obtain ⟨n, h1, h2⟩ := h c (by simp)
    obtain ⟨zs, h3, h4⟩ := list_of f Q l fun d hd => h d (by simp [hd])
    exact ⟨n :: zs, by simp [h1, h3], by simp [h2]; exact h4⟩
theorem flat_one {α : Type} (f : α → Value) : ∀ zs : List α, (zs.map fun n => [f n]).flatten = zs.map f
  | [] => rfl
  | n :: zs => by simp [flat_one f zs]

/-- A slice of integers. -/
theorem Rd.ints {t e : TypeId} {k : IntKind} {a : Option Addr} {len cap : Nat} (ht : P.underlying t = some (.slice e)) (he : P.underlying e = some (.int k)) (hc : P.cellsOf e = 1) (h : Rd enc P w t [.slice a len cap]) :
    ∃ zs : List Int, zs.length = len ∧ (∀ n ∈ zs, (Lit.int k n).wf = true) ∧ len ≤ 9223372036854775807 ∧ Sl w (fun k => k < w.heap.size) 1 (.slice a len cap) zs.length (zs.map (Value.int k)) := by
  obtain ⟨p, n, c, e1, hn, ess, hl, hall, hs⟩ := h.slice 1 ht hc (by decide)
  cases e1
  obtain ⟨zs, h1, h2⟩ := list_of (fun n => [Value.int k n]) (fun n => (Lit.int k n).wf = true) ess fun c hc => by
    obtain ⟨n, h1, h2⟩ := (hall c hc).1.int he
    exact ⟨n, h1, h2⟩
  have hlen : zs.length = len := by rw [← hl, h1]; simp
  rw [h1, flat_one] at hs
  exact ⟨zs, hlen, h2, hn, by rw [hlen]; exact hs⟩
end
end Go.RR
set_option linter.unusedVariables false
namespace Go.Proofs.YtapmojfebljjnaaGreat
open Go.RowKit Go.RR

def insIn (l : List In) : Prop := ∀ i ∈ l, (-9223372036854775808 ≤ i.op ∧ i.op ≤ 9223372036854775807) ∧ (-9223372036854775808 ≤ i.rd ∧ i.rd ≤ 9223372036854775807) ∧ (-9223372036854775808 ≤ i.rs ∧ i.rs ≤ 9223372036854775807) ∧ (-9223372036854775808 ≤ i.rt ∧ i.rt ≤ 9223372036854775807) ∧ (-9223372036854775808 ≤ i.im ∧ i.im ≤ 9223372036854775807)
set_option maxRecDepth 100000 in
theorem insts_of {H : Type} {enc : TypeId × Value → H} {w : World} {a : Option Addr} {len cap : Nat} (h : Rd enc Tryz.prog w 22 [.slice a len cap]) :
    ∃ l : List In, l.length = len ∧ len ≤ 9223372036854775807 ∧ Sl w (fun k => k < w.heap.size) 5 (.slice a len cap) l.length (icells l) ∧ insIn l := by
  obtain ⟨p, n, c, e1, hn, ess, hl, hall, hs⟩ := h.slice 5 Tryz.underlying22 (by kernel_rfl) (by decide)
  cases e1
  obtain ⟨ps, h1, h2⟩ := list_of In.cells (fun i : In => (-9223372036854775808 ≤ i.op ∧ i.op ≤ 9223372036854775807) ∧ (-9223372036854775808 ≤ i.rd ∧ i.rd ≤ 9223372036854775807) ∧ (-9223372036854775808 ≤ i.rs ∧ i.rs ≤ 9223372036854775807) ∧ (-9223372036854775808 ≤ i.rt ∧ i.rt ≤ 9223372036854775807) ∧ (-9223372036854775808 ≤ i.im ∧ i.im ≤ 9223372036854775807)) ess fun c hc => by
    obtain ⟨hr, hc2⟩ := hall c hc
    obtain ⟨-, hf⟩ := hr.struct Tryz.underlying41
    have f0 := hf 0 _ rfl
    have f1 := hf 1 _ rfl
    have f2 := hf 2 _ rfl
    have f3 := hf 3 _ rfl
    have f4 := hf 4 _ rfl
    match c, hc2, f0, f1, f2, f3, f4 with
    | [x, y, z, u, v], _, f0, f1, f2, f3, f4 =>
      obtain ⟨k0, e0, b0⟩ := Rd.int (k := .i64) (cs := [x]) Tryz.underlying39 f0
      cases e0
      obtain ⟨k1, e1, b1⟩ := Rd.int (k := .i64) (cs := [y]) Tryz.underlying3 f1
      cases e1
      obtain ⟨k2, e2, b2⟩ := Rd.int (k := .i64) (cs := [z]) Tryz.underlying3 f2
      cases e2
      obtain ⟨k3, e3, b3⟩ := Rd.int (k := .i64) (cs := [u]) Tryz.underlying3 f3
      cases e3
      obtain ⟨k4, e4, b4⟩ := Rd.int (k := .i64) (cs := [v]) Tryz.underlying3 f4
      cases e4
      exact ⟨⟨k0, k1, k2, k3, k4⟩, rfl, bounds_i64 b0, bounds_i64 b1, bounds_i64 b2, bounds_i64 b3, bounds_i64 b4⟩
  have hlen : ps.length = len := by rw [← hl, h1]; simp
  refine ⟨ps, hlen, hn, ?_, h2⟩
  rw [hlen]
  rw [h1] at hs
  unfold icells
  rw [List.flatMap_def]
  exact hs
end Go.Proofs.YtapmojfebljjnaaGreat
set_option linter.unusedVariables false
namespace Go.Proofs.YtapmojfebljjnaaGreat
open Go.RowKit Go.RR
theorem words_of {H : Type} {enc : TypeId × Value → H} {w : World} {a : Option Addr} {len cap : Nat} (h : Rd enc Tryz.prog w 23 [.slice a len cap]) :
    ∃ rs : List Nat, rs.length = len ∧ len ≤ 9223372036854775807 ∧ (∀ x ∈ rs, x < 18446744073709551616) ∧ Sl w (fun k => k < w.heap.size) 1 (.slice a len cap) rs.length (rs.map fun n : Nat => Value.int .u64 n) := by
  obtain ⟨zs, h1, h2, h3, h4⟩ := h.ints Tryz.underlying23 Tryz.underlying32 (by kernel_rfl)
  have hb : ∀ z ∈ zs, 0 ≤ z ∧ z < 18446744073709551616 := fun z hz => by
    have := bounds_u64 (h2 z hz)
    omega
  refine ⟨zs.map Int.toNat, by rw [List.length_map, h1], h3, fun x hx => ?_, ?_⟩
  · obtain ⟨z, hz, rfl⟩ := List.mem_map.1 hx
    have := hb z hz
    omega
  · rw [List.length_map, List.map_map]
    have e : zs.map ((fun n : Nat => Value.int .u64 n) ∘ Int.toNat) = zs.map (Value.int .u64) := List.map_congr_left fun z hz => by
      have := hb z hz
      show Value.int .u64 ((z.toNat : Nat) : Int) = _
      rw [Int.toNat_of_nonneg this.1]
    rw [e]
    exact h4
end Go.Proofs.YtapmojfebljjnaaGreat
