/- Rows of bytes, whatever they hold: writing a byte anywhere keeps them so. -/
import Derived.Test.YtokigldggkkbcaaSendRef3
set_option linter.unusedVariables false
namespace Go.Proofs.Ytokigldggkkbcaa
open Go.RowKit Go.RR
def Bytes (w : World) (S : Nat → Prop) (v : Value) (n : Nat) : Prop := ∃ us, Own w S 5 1 v n us ∧ ∀ u ∈ us, ∃ x, u = Value.int .u8 x
theorem Bytes.of {w : World} {S : Nat → Prop} {v : Value} {s : ByteArray} (h : Own w S 5 1 v s.size (byteCells s)) : Bytes w S v s.size := by
  refine ⟨_, h, fun u hu => ?_⟩
  unfold byteCells at hu
  obtain ⟨x, -, rfl⟩ := List.mem_map.1 hu
  exact ⟨_, rfl⟩
theorem Bytes.chg0 {w w' : World} {S : Nat → Prop} {v : Value} {n : Nat} (h : Bytes w S v n) (c : Chg NoB w w') : Bytes w' S v n := by
  obtain ⟨us, h1, h2⟩ := h
  exact ⟨us, h1.chg0 c, h2⟩
theorem Bytes.put {w : World} {S : Nat → Prop} {v : Value} {n : Nat} (h : Bytes w S v n) (g o : Nat) (x : Int) : Bytes (w.setCell ⟨g, o, none⟩ (.int .u8 x)) S v n := by
  obtain ⟨us, hO, hu⟩ := h
  rcases hO with ⟨hl, ⟨rfl, rfl⟩ | ⟨g', off, cap, cur, rfl, hS, hB, hn, hm, hf, hc⟩⟩
  · exact ⟨us, ⟨hl, .inl ⟨rfl, rfl⟩⟩, hu⟩
  · by_cases hg : g' = g
    · subst hg
      by_cases ho : off ≤ o
      · refine ⟨us.set (o - off) (.int .u8 x), ⟨by simpa using hl, .inr ⟨g', off, cap, _, rfl, hS, hB.set o _, hn, hm, by simpa using hf, fun j u hj => ?_⟩⟩, fun u hj => ?_⟩
        · rw [List.getElem?_set] at hj
          have hjl : j < us.length := by
            split at hj
            · split at hj
              · omega
              · cases hj
            · exact (List.getElem?_eq_some_iff.1 hj).1
          rw [Array.getElem?_setIfInBounds]
          by_cases e : o - off = j
          · rw [if_pos e] at hj
            split at hj
            · cases hj
              rw [if_pos (by omega), if_pos (by omega)]
            · cases hj
          · rw [if_neg e] at hj
            rw [if_neg (by omega)]; exact hc j u hj
        · rcases List.mem_or_eq_of_mem_set hj with h | h
          · exact hu u h
          · exact ⟨x, h⟩
      · refine ⟨us, ⟨hl, .inr ⟨g', off, cap, _, rfl, hS, hB.set o _, hn, hm, by simpa using hf, fun j u hj => ?_⟩⟩, hu⟩
        rw [Array.getElem?_setIfInBounds, if_neg (by omega)]; exact hc j u hj
    · exact ⟨us, ⟨hl, .inr ⟨g', off, cap, cur, rfl, hS, hB.set_ne hg _, hn, hm, hf, hc⟩⟩, hu⟩
theorem Bytes.le {w : World} {S : Nat → Prop} {v : Value} {n : Nat} (h : Bytes w S v n) : n ≤ maxLen := by
  obtain ⟨us, ⟨-, ⟨-, h1⟩ | ⟨g, off, cap, cur, -, -, -, h1, h2, -⟩⟩, -⟩ := h
  · omega
  · omega
theorem Bytes.form {w : World} {S : Nat → Prop} {v : Value} {n : Nat} (h : Bytes w S v n) : ∃ p c, v = .slice p n c := by
  obtain ⟨us, h1, -⟩ := h
  exact h1.form
theorem Bytes.spot {w : World} {S : Nat → Prop} {p : Option Addr} {n c k : Nat} (h : Bytes w S (.slice p n c) n) (hk : k < n) : ∃ g off x, p = some ⟨g, off, none⟩ ∧ S g ∧ g < w.heap.size ∧ w.cell? ⟨g, off + k, none⟩ = some (.int .u8 x) ∧ w.frozen? ⟨g, off + k, none⟩ = false ∧ n ≤ c := by
  obtain ⟨us, h1, h2⟩ := h
  have hl := h1.1
  obtain ⟨g, off, cap, e, hS, hg, hn, hc, hf⟩ := h1.spot (by omega)
  cases e
  have hkl : k < us.length := by omega
  obtain ⟨x, hx⟩ := h2 us[k] (List.getElem_mem hkl)
  exact ⟨g, off, x, rfl, hS, hg, hc k _ (by rw [List.getElem?_eq_getElem hkl, hx]), hf _, hn⟩
end Go.Proofs.Ytokigldggkkbcaa
