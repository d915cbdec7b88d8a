/- An instruction that can be read as data. No condition. -/
import Derived.Test.YtfidiiifcmmffaaGreatDoorAsm22
import Derived.Test.YtfidiiifcmmffaaGreatDoorAsm6
set_option linter.unusedVariables false
set_option linter.unusedSimpArgs false
namespace Go.Proofs.YtfidiiifcmmffaaGreatDoor
open Go.RowKit Go.RR
set_option maxRecDepth 100000 in
theorem inst_rd {H : Type} {enc : TypeId × Value → H} {w : World} {c : List Value} (hr : Rd enc Tryz.prog w 24 c) (hl : c.length = 5) : ∃ i : In, c = (ic i).toList ∧ i64I i := by
  obtain ⟨-, hf⟩ := hr.struct Tryz.underlying24
  have f0 := hf 0 _ rfl
  have f1 := hf 1 _ rfl
  have f2 := hf 2 _ rfl
  have f3 := hf 3 _ rfl
  have f4 := hf 4 _ rfl
  match c, hl, f0, f1, f2, f3, f4 with
  | [x, y, z, u, v], _, f0, f1, f2, f3, f4 =>
    obtain ⟨k0, e0, b0⟩ := Rd.int (k := .i64) (cs := [x]) Tryz.underlying22 f0
    cases e0
    obtain ⟨k1, e1, b1⟩ := Rd.int (k := .i64) (cs := [y]) Tryz.underlying3 f1
    cases e1
    obtain ⟨k2, e2, b2⟩ := Rd.int (k := .i64) (cs := [z]) Tryz.underlying3 f2
    cases e2
    obtain ⟨k3, e3, b3⟩ := Rd.int (k := .i64) (cs := [u]) Tryz.underlying3 f3
    cases e3
    obtain ⟨k4, e4, b4⟩ := Rd.int (k := .i64) (cs := [v]) Tryz.underlying3 f4
    cases e4
    exact ⟨⟨k0, k1, k2, k3, k4⟩, rfl, bounds_i64 b0, bounds_i64 b1, bounds_i64 b2, bounds_i64 b3, bounds_i64 b4⟩
set_option maxRecDepth 100000 in
theorem inst_in {H : Type} {enc : TypeId × Value → H} {w : World} {b : Nat} {v : Value} (ok : Value.okWide Tryz.prog w .any b 24 v) (h : Rd enc Tryz.prog w 24 v.cells.toList) :
    ∃ i : In, v = .agg #[.int .i64 i.op, .int .i64 i.rd, .int .i64 i.rs, .int .i64 i.rt, .int .i64 i.im] ∧ i64I i := by
  unfold Value.okWide at ok
  rw [Tryz.underlying24] at ok
  obtain ⟨cs, rfl, hsz, -⟩ := ok
  replace h : Rd enc Tryz.prog w 24 cs.toList := h
  obtain ⟨a, e, ha⟩ := inst_rd h (by have := (h.struct Tryz.underlying24).1; rw [this]; exact (by kernel_rfl : Tryz.prog.cellsOf 24 = 5))
  refine ⟨a, ?_, ha⟩
  congr 1
  exact Array.toList_inj.1 e
end Go.Proofs.YtfidiiifcmmffaaGreatDoor
