/- Facts that can be read as data. No condition. -/
import Derived.Test.YtleilfkcjollaaaGreatHs
import Derived.Test.YtleilfkcjollaaaGreatFb
set_option linter.unusedVariables false
set_option linter.unusedSimpArgs false
namespace Go.Proofs.YtleilfkcjollaaaGreat
open Go.RowKit Go.RR
set_option maxRecDepth 100000 in
theorem fact_rd {H : Type} {enc : TypeId × Value → H} {w : World} {c : List Value} (hr : Rd enc Tryz.prog w 86 c) (hl : c.length = 16) : ∃ f : FactP, c = f.vs ∧ f.Ok := by
  obtain ⟨-, hf⟩ := hr.struct Tryz.underlying86
  have f0 := hf 0 _ rfl
  have f1 := hf 1 _ rfl
  have f2 := hf 2 _ rfl
  have f3 := hf 3 _ rfl
  match c, hl, f0, f1, f2, f3 with
  | [x0, x1, x2, y0, z0, z1, z2, z3, z4, y2, y3, y4, y5, y6, y7, y8], _, f0, f1, f2, f3 =>
    obtain ⟨k0, e0, -⟩ := Rd.int (k := .i64) (cs := [x0]) Tryz.underlying3 f0
    cases e0
    obtain ⟨k1, e1, -⟩ := Rd.int (k := .i64) (cs := [x1]) Tryz.underlying3 f1
    cases e1
    obtain ⟨k2, e2, -⟩ := Rd.int (k := .i64) (cs := [x2]) Tryz.underlying3 f2
    cases e2
    replace f3 : Rd enc Tryz.prog w 84 [y0, z0, z1, z2, z3, z4, y2, y3, y4, y5, y6, y7, y8] := f3
    obtain ⟨-, hg⟩ := f3.struct Tryz.underlying84
    obtain ⟨d0, e3⟩ := Rd.bool (cs := [y0]) Tryz.underlying4 (hg 0 _ rfl)
    cases e3
    have gi : Rd enc Tryz.prog w 73 [z0, z1, z2, z3, z4] := hg 1 _ rfl
    obtain ⟨-, hh⟩ := gi.struct Tryz.underlying73
    obtain ⟨i0, e4, -⟩ := Rd.int (k := .i64) (cs := [z0]) Tryz.underlying71 (hh 0 _ rfl)
    cases e4
    obtain ⟨i1, e5, -⟩ := Rd.int (k := .i64) (cs := [z1]) Tryz.underlying3 (hh 1 _ rfl)
    cases e5
    obtain ⟨i2, e6, -⟩ := Rd.int (k := .i64) (cs := [z2]) Tryz.underlying3 (hh 2 _ rfl)
    cases e6
    obtain ⟨i3, e7, -⟩ := Rd.int (k := .i64) (cs := [z3]) Tryz.underlying3 (hh 3 _ rfl)
    cases e7
    obtain ⟨i4, e8, -⟩ := Rd.int (k := .i64) (cs := [z4]) Tryz.underlying3 (hh 4 _ rfl)
    cases e8
    obtain ⟨d2, e9, b2⟩ := Rd.int (k := .u64) (cs := [y2]) Tryz.underlying81 (hg 2 _ rfl)
    cases e9
    obtain ⟨d3, ea, -⟩ := Rd.int (k := .i64) (cs := [y3]) Tryz.underlying82 (hg 3 _ rfl)
    cases ea
    obtain ⟨d4, eb, -⟩ := Rd.int (k := .i64) (cs := [y4]) Tryz.underlying80 (hg 4 _ rfl)
    cases eb
    obtain ⟨d5, ec, b5⟩ := Rd.int (k := .u64) (cs := [y5]) Tryz.underlying81 (hg 5 _ rfl)
    cases ec
    obtain ⟨d6, ed, -⟩ := Rd.int (k := .i64) (cs := [y6]) Tryz.underlying3 (hg 6 _ rfl)
    cases ed
    obtain ⟨d7, ee, b7⟩ := Rd.int (k := .u64) (cs := [y7]) Tryz.underlying81 (hg 7 _ rfl)
    cases ee
    obtain ⟨d8, ef, b8⟩ := Rd.int (k := .u64) (cs := [y8]) Tryz.underlying81 (hg 8 _ rfl)
    cases ef
    have g2 := bounds_u64 b2
    have g5 := bounds_u64 b5
    have g7 := bounds_u64 b7
    have g8 := bounds_u64 b8
    obtain ⟨m2, rfl⟩ := Int.eq_ofNat_of_zero_le g2.1
    obtain ⟨m5, rfl⟩ := Int.eq_ofNat_of_zero_le g5.1
    obtain ⟨m7, rfl⟩ := Int.eq_ofNat_of_zero_le g7.1
    obtain ⟨m8, rfl⟩ := Int.eq_ofNat_of_zero_le g8.1
    exact ⟨⟨k0, k1, k2, ⟨d0, ⟨i0, i1, i2, i3, i4⟩, m2, d3, d4, m5, d6, m7, m8⟩⟩, rfl, by show m5 < _; omega, by show m7 < _; omega, by show m8 < _; omega⟩
set_option maxRecDepth 100000 in
theorem facts_in {H : Type} {enc : TypeId × Value → H} {w : World} {a : Option Addr} {len cap : Nat} (h : Rd enc Tryz.prog w 32 [.slice a len cap]) :
    ∃ l : List FactP, l.length = len ∧ len ≤ 9223372036854775807 ∧ Sl w (fun k => k < w.heap.size) 16 (.slice a len cap) l.length (fcells l) ∧ ∀ f ∈ l, f.Ok := by
  obtain ⟨p, n, c, e1, hn, ess, hl, hall, hs⟩ := h.slice 16 Tryz.underlying32 (by kernel_rfl) (by decide)
  cases e1
  obtain ⟨ps, h1, h2⟩ := list_of FactP.vs FactP.Ok ess fun c hc => by
    obtain ⟨hr, hc2⟩ := hall c hc
    exact fact_rd hr hc2
  have hlen : ps.length = len := by rw [← hl, h1]; simp
  refine ⟨ps, hlen, hn, ?_, h2⟩
  rw [hlen]
  show Sl w (fun k => k < w.heap.size) 16 (.slice a len cap) len (ps.flatMap FactP.vs)
  rw [List.flatMap_def, ← h1]
  exact hs
end Go.Proofs.YtleilfkcjollaaaGreat
