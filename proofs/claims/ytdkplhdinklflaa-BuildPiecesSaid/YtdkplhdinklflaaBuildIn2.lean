/- A [][]Inst that can be read as data. -/
import Derived.Test.YtdkplhdinklflaaBuildIn
import Derived.Test.YtdkplhdinklflaaBuild4
set_option linter.unusedVariables false
namespace Go.Proofs.Ytdkplhdinklflaa
open Go.RowKit Go.RR
set_option maxRecDepth 100000 in
theorem pieces_of {H : Type} {enc : TypeId × Value → H} {w : World} {a : Option Addr} {len cap : Nat} (h : Rd enc Try.prog w 35 [.slice a len cap]) :
    ∃ (vs : List Value) (ls : List (List In)), vs.length = len ∧ len ≤ 9223372036854775807 ∧ Sl w (fun k => k < w.heap.size) 1 (.slice a len cap) vs.length vs ∧ PRows w vs ls ∧ ∀ l ∈ ls, l.length ≤ 9223372036854775807 ∧ insIn l := by
  obtain ⟨p, n, c, e1, hn, ess, hl, hall, hs⟩ := h.slice 1 Try.underlying35 (by kernel_rfl) (by decide)
  cases e1
  obtain ⟨ps, h1, h2⟩ := list_of (fun (x : Value × List In) => [x.1]) (fun x => x.2.length ≤ 9223372036854775807 ∧ insIn x.2 ∧ Sl w (fun k => k < w.heap.size) 5 x.1 x.2.length (icells x.2)) ess fun c hc => by
    obtain ⟨hr, hc2⟩ := hall c hc
    obtain ⟨q, n2, c2, e3, hn2, -⟩ := Rd.slice 5 Try.underlying23 (by kernel_rfl) (by decide) hr
    subst e3
    obtain ⟨l, g1, g2, g3, g4⟩ := insts_of hr
    exact ⟨(_, l), rfl, (by show l.length ≤ _; omega), g4, g3⟩
  have hlen : ps.length = len := by rw [← hl, h1]; simp
  refine ⟨ps.map (·.1), ps.map (·.2), by simp [hlen], hn, ?_, ⟨by simp, fun i x l hx hq => ?_⟩, fun l hq => ?_⟩
  · rw [h1] at hs
    have e : (List.map (fun x : Value × List In => [x.1]) ps).flatten = ps.map (·.1) := by
      clear hs h2 h1 hlen hl
      induction ps with
      | nil => rfl
      | cons x ps ih => simp [ih]
    rw [e] at hs
    rw [List.length_map, hlen]
    exact hs
  · rw [List.getElem?_map] at hx hq
    cases hp : ps[i]? with
    | none => rw [hp] at hx; cases hx
    | some y =>
      rw [hp] at hx hq
      cases hx
      cases hq
      exact ⟨_, (h2 y (List.mem_of_getElem? hp)).2.2⟩
  · obtain ⟨y, hy, rfl⟩ := List.mem_map.1 hq
    exact ⟨(h2 y hy).1, (h2 y hy).2.1⟩
end Go.Proofs.Ytdkplhdinklflaa
