/- Acts that can be read as data. No condition. -/
import Derived.Test.YtfidiiifcmmffaaDoorTrace15
import Derived.Test.YtfidiiifcmmffaaDoorTraceP4
import Derived.Test.YtfidiiifcmmffaaDoorIn
set_option linter.unusedVariables false
set_option linter.unusedSimpArgs false
namespace Go.Proofs.YtfidiiifcmmffaaDoor
open Go.RowKit Go.RR

theorem wf_i64 {n : Int} (h : (Lit.int .i64 n).wf = true) : i64 n := bounds_i64 h
set_option maxRecDepth 100000 in
theorem act_rd {H : Type} {enc : TypeId × Value → H} {w : World} {c : List Value} (hr : Rd enc Tryd.prog w 23 c) (hl : c.length = 3) : ∃ a : Ac, c = acells a ∧ i64A a := by
  obtain ⟨-, hf⟩ := hr.struct Tryd.underlying23
  have f0 := hf 0 _ rfl
  have f1 := hf 1 _ rfl
  have f2 := hf 2 _ rfl
  match c, hl, f0, f1, f2 with
  | [x, y, z], _, f0, f1, f2 =>
    obtain ⟨k0, e0, b0⟩ := Rd.int (k := .i64) (cs := [x]) Tryd.underlying3 f0
    cases e0
    obtain ⟨k1, e1, b1⟩ := Rd.int (k := .i64) (cs := [y]) Tryd.underlying3 f1
    cases e1
    obtain ⟨k2, e2, b2⟩ := Rd.int (k := .i64) (cs := [z]) Tryd.underlying3 f2
    cases e2
    exact ⟨(k0, k1, k2), rfl, wf_i64 b0, wf_i64 b1, wf_i64 b2⟩
set_option maxRecDepth 100000 in
theorem act_in {H : Type} {enc : TypeId × Value → H} {w : World} {b : Nat} {v : Value} (ok : Value.okWide Tryd.prog w .any b 23 v) (h : Rd enc Tryd.prog w 23 v.cells.toList) : ∃ a : Ac, v = .agg #[.int .i64 a.1, .int .i64 a.2.1, .int .i64 a.2.2] ∧ i64A a := by
  unfold Value.okWide at ok
  rw [Tryd.underlying23] at ok
  obtain ⟨cs, rfl, hsz, -⟩ := ok
  replace h : Rd enc Tryd.prog w 23 cs.toList := h
  obtain ⟨a, e, ha⟩ := act_rd h (by have := (h.struct Tryd.underlying23).1; rw [this]; exact (by kernel_rfl : Tryd.prog.cellsOf 23 = 3))
  refine ⟨a, ?_, ha⟩
  congr 1
  exact Array.toList_inj.1 e
set_option maxRecDepth 100000 in
theorem acts_in {H : Type} {enc : TypeId × Value → H} {w : World} {a : Option Addr} {len cap : Nat} (h : Rd enc Tryd.prog w 25 [.slice a len cap]) :
    ∃ l : List Ac, l.length = len ∧ len ≤ 9223372036854775807 ∧ AAt w (.slice a len cap) l ∧ ∀ b ∈ l, i64A b := by
  obtain ⟨p, n, c, e1, hn, ess, hl, hall, hs⟩ := h.slice 3 Tryd.underlying25 (by kernel_rfl) (by decide)
  cases e1
  obtain ⟨ps, h1, h2⟩ := list_of acells (fun a : Ac => i64A a) ess fun c hc => by
    obtain ⟨hr, hc2⟩ := hall c hc
    exact act_rd hr hc2
  have hlen : ps.length = len := by rw [← hl, h1]; simp
  refine ⟨ps, hlen, hn, ⟨fun k => k < w.heap.size, ?_⟩, h2⟩
  rw [hlen]
  show Sl w (fun k => k < w.heap.size) 3 (.slice a len cap) len (ps.map acells).flatten
  rw [← h1]
  exact hs
end Go.Proofs.YtfidiiifcmmffaaDoor
