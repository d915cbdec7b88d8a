/- A []Op that can be read as data. -/
import Derived.Test.YtokigldggkkbcaaSendKeeps
import Derived.Test.YtokigldggkkbcaaIn
set_option linter.unusedVariables false
namespace Go.Proofs.Ytokigldggkkbcaa
open Go.RowKit Go.RR

theorem bytes_op : ∀ (zs : List Int), (∀ z ∈ zs, 0 ≤ z ∧ z ≤ 255) → ∃ s : ByteArray, s.size = zs.length ∧ byteCells s = zs.map (Value.int .u8) := by
  intro zs hz
  refine ⟨⟨(zs.map fun z => UInt8.ofNat z.toNat).toArray⟩, by simp [ByteArray.size], ?_⟩
  simp only [byteCells, List.map_map]
  refine List.map_congr_left fun z h => ?_
  obtain ⟨n, rfl⟩ := Int.eq_ofNat_of_zero_le (hz z h).1
  have h2 := (hz _ h).2
  have : (UInt8.ofNat n).toNat = n := by rw [UInt8.toNat_ofNat']; exact Nat.mod_eq_of_lt (by omega)
  simp only [Function.comp, Int.toNat_natCast, this]

set_option maxRecDepth 100000 in
theorem ops_of {H : Type} {enc : TypeId × Value → H} {w : World} {a : Option Addr} {len cap : Nat} (h : Rd enc Try.prog w 81 [.slice a len cap]) :
    ∃ ps : List OpV, ps.length = len ∧ len ≤ 9223372036854775807 ∧ Sl w (fun k => k < w.heap.size) 4 (.slice a len cap) ps.length (ocells ps) ∧ OpsOk w ps := by
  obtain ⟨p, n, c, e1, hn, ess, hl, hall, hs⟩ := h.slice 4 Try.underlying81 (by kernel_rfl) (by decide)
  cases e1
  obtain ⟨ps, h1, h2⟩ := list_of (fun o : OpV => [Value.int .i64 o.kind, .int .i64 o.i, .int .u64 o.ack, o.v]) (fun o => (0 ≤ o.ack ∧ o.ack ≤ 18446744073709551615) ∧ o.b.size ≤ 9223372036854775807 ∧ Sl w (fun k => k < w.heap.size) 1 o.v o.b.size (byteCells o.b)) ess fun c hc => by
    obtain ⟨hr, hc2⟩ := hall c hc
    obtain ⟨-, hf⟩ := hr.struct Try.underlying95
    have f0 := hf 0 _ rfl
    have f1 := hf 1 _ rfl
    have f2 := hf 2 _ rfl
    have f3 := hf 3 _ rfl
    match c, hc2, f0, f1, f2, f3 with
    | [x, y, z, u], _, f0, f1, f2, f3 =>
      obtain ⟨k0, e0, -⟩ := Rd.int (k := .i64) (cs := [x]) Try.underlying3 f0
      cases e0
      obtain ⟨k1, e1, -⟩ := Rd.int (k := .i64) (cs := [y]) Try.underlying3 f1
      cases e1
      obtain ⟨k2, e2, wf⟩ := Rd.int (k := .u64) (cs := [z]) Try.underlying28 f2
      cases e2
      obtain ⟨q, n2, c2, e3, hn2, -⟩ := Rd.slice (cs := [u]) 1 Try.underlying22 (by kernel_rfl) (by decide) f3
      cases e3
      obtain ⟨zs, g1, g2, g3, g4⟩ := Rd.ints (k := .u8) Try.underlying22 Try.underlying5 (by kernel_rfl) f3
      obtain ⟨s, t1, t2⟩ := bytes_op zs fun z hz => bounds_u8 (g2 z hz)
      rw [← t2, ← t1] at g4
      exact ⟨⟨k0, k1, k2, _, s⟩, rfl, bounds_u64 wf, by simp only; omega, g4⟩
  have hlen : ps.length = len := by rw [← hl, h1]; simp
  refine ⟨ps, hlen, hn, ?_, h2⟩
  rw [hlen]
  rw [h1] at hs
  unfold ocells
  rw [List.flatMap_def]
  exact hs
end Go.Proofs.Ytokigldggkkbcaa
