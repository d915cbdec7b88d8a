/- A []Inst that can be read as data. -/
import Derived.Test.YtdkplhdinklflaaBuild
import Derived.Test.YtdkplhdinklflaaIn
set_option linter.unusedVariables false
namespace Go.Proofs.Ytdkplhdinklflaa
open Go.RowKit Go.RR

def insIn (l : List In) : Prop := ∀ i ∈ l, (-9223372036854775808 ≤ i.op ∧ i.op ≤ 9223372036854775807) ∧ (-9223372036854775808 ≤ i.rd ∧ i.rd ≤ 9223372036854775807) ∧ (-9223372036854775808 ≤ i.rs ∧ i.rs ≤ 9223372036854775807) ∧ (-9223372036854775808 ≤ i.rt ∧ i.rt ≤ 9223372036854775807) ∧ (-9223372036854775808 ≤ i.im ∧ i.im ≤ 9223372036854775807)
set_option maxRecDepth 100000 in
theorem insts_of {H : Type} {enc : TypeId × Value → H} {w : World} {a : Option Addr} {len cap : Nat} (h : Rd enc Try.prog w 23 [.slice a len cap]) :
    ∃ l : List In, l.length = len ∧ len ≤ 9223372036854775807 ∧ Sl w (fun k => k < w.heap.size) 5 (.slice a len cap) l.length (icells l) ∧ insIn l := by
  obtain ⟨p, n, c, e1, hn, ess, hl, hall, hs⟩ := h.slice 5 Try.underlying23 (by kernel_rfl) (by decide)
  cases e1
  obtain ⟨ps, h1, h2⟩ := list_of In.cells (fun i : In => (-9223372036854775808 ≤ i.op ∧ i.op ≤ 9223372036854775807) ∧ (-9223372036854775808 ≤ i.rd ∧ i.rd ≤ 9223372036854775807) ∧ (-9223372036854775808 ≤ i.rs ∧ i.rs ≤ 9223372036854775807) ∧ (-9223372036854775808 ≤ i.rt ∧ i.rt ≤ 9223372036854775807) ∧ (-9223372036854775808 ≤ i.im ∧ i.im ≤ 9223372036854775807)) ess fun c hc => by
    obtain ⟨hr, hc2⟩ := hall c hc
    obtain ⟨-, hf⟩ := hr.struct Try.underlying32
    have f0 := hf 0 _ rfl
    have f1 := hf 1 _ rfl
    have f2 := hf 2 _ rfl
    have f3 := hf 3 _ rfl
    have f4 := hf 4 _ rfl
    match c, hc2, f0, f1, f2, f3, f4 with
    | [x, y, z, u, v], _, f0, f1, f2, f3, f4 =>
      obtain ⟨k0, e0, b0⟩ := Rd.int (k := .i64) (cs := [x]) Try.underlying30 f0
      cases e0
      obtain ⟨k1, e1, b1⟩ := Rd.int (k := .i64) (cs := [y]) Try.underlying3 f1
      cases e1
      obtain ⟨k2, e2, b2⟩ := Rd.int (k := .i64) (cs := [z]) Try.underlying3 f2
      cases e2
      obtain ⟨k3, e3, b3⟩ := Rd.int (k := .i64) (cs := [u]) Try.underlying3 f3
      cases e3
      obtain ⟨k4, e4, b4⟩ := Rd.int (k := .i64) (cs := [v]) Try.underlying3 f4
      cases e4
      exact ⟨⟨k0, k1, k2, k3, k4⟩, rfl, bounds_i64 b0, bounds_i64 b1, bounds_i64 b2, bounds_i64 b3, bounds_i64 b4⟩
  have hlen : ps.length = len := by rw [← hl, h1]; simp
  refine ⟨ps, hlen, hn, ?_, h2⟩
  rw [hlen]
  rw [h1] at hs
  unfold icells
  rw [List.flatMap_def]
  exact hs
end Go.Proofs.Ytdkplhdinklflaa
