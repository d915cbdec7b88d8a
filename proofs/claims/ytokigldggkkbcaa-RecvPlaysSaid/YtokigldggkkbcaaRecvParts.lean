/- A []Part that can be read as data: numbers and bodies. -/
import Derived.Test.YtokigldggkkbcaaRecvPlays
import Derived.Test.YtokigldggkkbcaaIn
set_option linter.unusedVariables false
namespace Go.Proofs.Ytokigldggkkbcaa
open Go.RowKit Go.RR

theorem bytes_of : ∀ (zs : List Int), (∀ z ∈ zs, 0 ≤ z ∧ z ≤ 255) → ∃ s : ByteArray, s.size = zs.length ∧ byteCells s = zs.map (Value.int .u8) := by
  intro zs hz
  refine ⟨⟨(zs.map fun z => UInt8.ofNat z.toNat).toArray⟩, by simp [ByteArray.size], ?_⟩
  simp only [byteCells, List.map_map]
  refine List.map_congr_left fun z h => ?_
  obtain ⟨n, rfl⟩ := Int.eq_ofNat_of_zero_le (hz z h).1
  have h2 := (hz _ h).2
  have : (UInt8.ofNat n).toNat = n := by rw [UInt8.toNat_ofNat']; exact Nat.mod_eq_of_lt (by omega)
  simp only [Function.comp, Int.toNat_natCast, this]

set_option maxRecDepth 100000 in
theorem parts_of {H : Type} {enc : TypeId × Value → H} {w : World} {a : Option Addr} {len cap : Nat} (h : Rd enc Try.prog w 35 [.slice a len cap]) :
    ∃ ps : List (Int × Value × ByteArray), ps.length = len ∧ len ≤ 9223372036854775807 ∧ Sl w (fun k => k < w.heap.size) 2 (.slice a len cap) ps.length (ps.flatMap fun p => [.int .u64 p.1, p.2.1]) ∧
      ∀ p ∈ ps, 0 ≤ p.1 ∧ p.1 ≤ 18446744073709551615 ∧ p.2.2.size ≤ 9223372036854775807 ∧ Sl w (fun k => k < w.heap.size) 1 p.2.1 p.2.2.size (byteCells p.2.2) := by
  obtain ⟨p, n, c, e1, hn, ess, hl, hall, hs⟩ := h.slice 2 Try.underlying35 (by kernel_rfl) (by decide)
  cases e1
  obtain ⟨ps, h1, h2⟩ := list_of (fun p : Int × Value × ByteArray => [Value.int .u64 p.1, p.2.1]) (fun p => 0 ≤ p.1 ∧ p.1 ≤ 18446744073709551615 ∧ p.2.2.size ≤ 9223372036854775807 ∧ Sl w (fun k => k < w.heap.size) 1 p.2.1 p.2.2.size (byteCells p.2.2)) ess fun c hc => by
    obtain ⟨hr, hc2⟩ := hall c hc
    obtain ⟨-, hf⟩ := hr.struct Try.underlying41
    have f0 := hf 0 _ rfl
    have f1 := hf 1 _ rfl
    match c, hc2, f0, f1 with
    | [x, y], _, f0, f1 =>
      obtain ⟨m, e0, wf⟩ := Rd.int (k := .u64) (cs := [x]) Try.underlying28 f0
      cases e0
      obtain ⟨q, n2, c2, e2, hn2, -⟩ := Rd.slice (cs := [y]) 1 Try.underlying22 (by kernel_rfl) (by decide) f1
      cases e2
      obtain ⟨zs, g1, g2, g3, g4⟩ := Rd.ints (k := .u8) Try.underlying22 Try.underlying5 (by kernel_rfl) f1
      obtain ⟨s, k1, k2⟩ := bytes_of zs fun z hz => bounds_u8 (g2 z hz)
      rw [← k2, ← k1] at g4
      have hb := bounds_u64 wf
      exact ⟨(m, _, s), rfl, hb.1, hb.2, by simp only; omega, g4⟩
  have hlen : ps.length = len := by rw [← hl, h1]; simp
  refine ⟨ps, hlen, hn, ?_, h2⟩
  rw [hlen]
  rw [h1] at hs
  rw [List.flatMap_def]
  exact hs
end Go.Proofs.Ytokigldggkkbcaa
