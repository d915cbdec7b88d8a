/- Senders in plain words: numbers are given in the order of the line, and none is lost. No condition. -/
import Derived.Test.YtokigldggkkbcaaSend8
set_option linter.unusedVariables false
namespace Go.Proofs.Ytokigldggkkbcaa
open Go.RowKit Go.RR

/-- Of offered bodies, c have come; then those under way, then the line. -/
structure Flow (off : List ByteArray) (c : Nat) (line : List ByteArray) (fl : List Fl) (next : Int) : Prop where
  hfl : ∀ (i : Nat) (f : Fl), fl[i]? = some f → f.seq = c + i + 1 ∧ off[c + i]? = some f.b ∧ 0 ≤ f.wait ∧ f.wait ≤ 1000
  hline : line = off.drop (c + fl.length)
  hnext : next = c + fl.length + 1
  hlen : c + fl.length ≤ off.length
def Good (off : List ByteArray) (c : Nat) (p : Int × ByteArray) : Prop := ∃ n : Nat, c ≤ n ∧ p.1 = n + 1 ∧ off[n]? = some p.2

theorem Flow.again {off : List ByteArray} {c : Nat} {line : List ByteArray} {fl : List Fl} {next longest : Int} (h : Flow off c line fl next) (t : Int) (hl : 0 ≤ longest ∧ longest ≤ 1000) : Flow off c line (fl.map (agF t longest)) next ∧ ∀ p ∈ agOut t fl, Good off c p := by
  refine ⟨⟨fun i f hf => ?_, by rw [List.length_map]; exact h.hline, by rw [List.length_map]; exact h.hnext, by rw [List.length_map]; exact h.hlen⟩, fun p hp => ?_⟩
  · rw [List.getElem?_map, Option.map_eq_some_iff] at hf
    obtain ⟨f0, h0, rfl⟩ := hf
    obtain ⟨h1, h2, h3, h4⟩ := h.hfl i f0 h0
    refine ⟨by rw [agF_seq]; exact h1, by rw [agF_b]; exact h2, ?_⟩
    unfold agF
    split
    · simp only; omega
    · exact ⟨h3, h4⟩
  · unfold agOut at hp
    obtain ⟨f, hf, rfl⟩ := List.mem_map.1 hp
    obtain ⟨i, hi⟩ := List.mem_iff_getElem?.1 (List.mem_filter.1 hf).1
    obtain ⟨h1, h2, h3, h4⟩ := h.hfl i f hi
    exact ⟨c + i, by omega, by rw [h1]; simp, h2⟩
theorem Flow.fill {off : List ByteArray} {c : Nat} {window wait t : Int} (hw : 0 ≤ wait ∧ wait ≤ 1000) : ∀ (line : List ByteArray) (fl : List Fl) (next : Int), Flow off c line fl next → (fl.length : Int) ≤ window →
    Flow off c (fillF window wait t line fl next).2.1 (fillF window wait t line fl next).2.2.1 (fillF window wait t line fl next).2.2.2 ∧ ((fillF window wait t line fl next).2.2.1.length : Int) ≤ window ∧ ∀ p ∈ (fillF window wait t line fl next).1, Good off c p
  | [], fl, next, h, hl => ⟨h, hl, fun p hp => by cases hp⟩
  | b :: line, fl, next, h, hl => by
    unfold fillF
    by_cases hlt : (fl.length : Int) < window
    · rw [if_pos hlt]
      have hd : off.drop (c + fl.length) = b :: line := h.hline.symm
      have hb : off[c + fl.length]? = some b := by
        have : (off.drop (c + fl.length))[0]? = some b := by rw [hd]; rfl
        rw [List.getElem?_drop] at this
        simpa using this
      have hlt2 := (List.getElem?_eq_some_iff.1 hb).1
      have hF : Flow off c line (fl ++ [⟨next, b, t + wait, wait⟩]) (next + 1) := by
        refine ⟨fun i f hf => ?_, ?_, by have := h.hnext; simp; omega, by simp; omega⟩
        · rw [List.getElem?_append] at hf
          split at hf
          · exact h.hfl i f hf
          · rename_i hi
            have hi2 : i = fl.length := by have := (List.getElem?_eq_some_iff.1 hf).1; simp at this; omega
            subst hi2
            simp at hf
            subst hf
            exact ⟨h.hnext, hb, hw.1, hw.2⟩
        · have := congrArg (List.drop 1) hd
          rw [List.drop_drop] at this
          rw [List.length_append, List.length_singleton, ← Nat.add_assoc, this]
          rfl
      obtain ⟨k1, k2, k3⟩ := Flow.fill (window := window) (t := t) hw line _ (next + 1) hF (by simp; omega)
      refine ⟨k1, k2, fun p hp => ?_⟩
      rcases List.mem_cons.1 hp with rfl | hp
      · exact ⟨c + fl.length, by omega, by have := h.hnext; simp only; omega, hb⟩
      · exact k3 p hp
    · rw [if_neg hlt]
      exact ⟨h, hl, fun p hp => by cases hp⟩
theorem fillF_len (window wait t : Int) : ∀ (line : List ByteArray) (fl : List Fl) (next : Int), (fillF window wait t line fl next).1.length ≤ line.length
  | [], fl, next => Nat.le_refl _
  | b :: line, fl, next => by
    unfold fillF
    split
    · have := fillF_len window wait t line (fl ++ [⟨next, b, t + wait, wait⟩]) (next + 1)
      simp only [List.length_cons]; omega
    · simp
theorem filter_drop (ack : Int) : ∀ (fl : List Fl) (c : Int), (∀ (i : Nat) (f : Fl), fl[i]? = some f → f.seq = c + i + 1) → ∃ d, d ≤ fl.length ∧ (fl.filter fun f => !decide (f.seq < ack)) = fl.drop d ∧ (0 < d → c + d < ack)
  | [], c, h => ⟨0, Nat.le_refl _, rfl, fun h => by omega⟩
  | f :: fl, c, h => by
    have h0 := h 0 f rfl
    by_cases hs : f.seq < ack
    · obtain ⟨d, h1, h2, h3⟩ := filter_drop ack fl (c + 1) (fun i g hg => by have := h (i + 1) g (by simpa using hg); simp at this; omega)
      refine ⟨d + 1, by simp; omega, by simp [hs, h2], fun _ => ?_⟩
      by_cases hd : 0 < d
      · have := h3 hd; simp; omega
      · have : d = 0 := by omega
        subst this; simp at h0 ⊢; omega
    · refine ⟨0, by omega, ?_, fun h => by omega⟩
      rw [List.drop_zero, List.filter_eq_self]
      intro g hg
      obtain ⟨i, hi⟩ := List.mem_iff_getElem?.1 hg
      have := h i g hi
      simp at h0 ⊢
      omega
theorem Flow.acked {off : List ByteArray} {c : Nat} {line : List ByteArray} {fl : List Fl} {next : Int} (h : Flow off c line fl next) (ack : Int) : ∃ d : Nat, (fl.length : Int) - (ackF ack next fl).length = d ∧ Flow off (c + d) line (ackF ack next fl) next ∧ (ackF ack next fl).length + d = fl.length := by
  unfold ackF
  split
  · exact ⟨0, by omega, by simpa using h, by omega⟩
  · obtain ⟨d, h1, h2, -⟩ := filter_drop ack fl c fun i f hf => (h.hfl i f hf).1
    rw [h2]
    have hl : (fl.drop d).length = fl.length - d := by simp
    refine ⟨d, by rw [hl]; omega, ⟨fun i f hf => ?_, ?_, by rw [hl]; have := h.hnext; omega, by rw [hl]; have := h.hlen; omega⟩, by rw [hl]; omega⟩
    · rw [List.getElem?_drop] at hf
      obtain ⟨a1, a2, a3⟩ := h.hfl (d + i) f hf
      exact ⟨by omega, by rw [Nat.add_assoc]; exact a2, a3⟩
    · rw [hl, show c + d + (fl.length - d) = c + fl.length by omega]; exact h.hline
theorem Flow.offer {off : List ByteArray} {c : Nat} {line : List ByteArray} {fl : List Fl} {next : Int} (h : Flow off c line fl next) (s : ByteArray) : Flow (off ++ [s]) c (line ++ [s]) fl next := by
  have hl := h.hlen
  refine ⟨fun i f hf => ?_, ?_, h.hnext, by simp; omega⟩
  · obtain ⟨a1, a2, a3⟩ := h.hfl i f hf
    exact ⟨a1, by rw [List.getElem?_append_left (List.getElem?_eq_some_iff.1 a2).1]; exact a2, a3⟩
  · rw [h.hline, List.drop_append_of_le_length hl]
theorem Flow.lineLen {off : List ByteArray} {c : Nat} {line : List ByteArray} {fl : List Fl} {next : Int} (h : Flow off c line fl next) : c + fl.length + line.length = off.length := by
  have := h.hlen
  rw [h.hline, List.length_drop]; omega
theorem Flow.flOk {off : List ByteArray} {c : Nat} {line : List ByteArray} {fl : List Fl} {next : Int} (h : Flow off c line fl next) (ho : ∀ s ∈ off, s.size ≤ 4120) : FlOk fl := by
  intro f hf
  obtain ⟨i, hi⟩ := List.mem_iff_getElem?.1 hf
  obtain ⟨a1, a2, a3⟩ := h.hfl i f hi
  exact ⟨a3, ho _ (List.mem_of_getElem? a2)⟩
theorem Flow.lineOk {off : List ByteArray} {c : Nat} {line : List ByteArray} {fl : List Fl} {next : Int} (h : Flow off c line fl next) (ho : ∀ s ∈ off, s.size ≤ 4120) : LineOk line := by
  intro s hs
  rw [h.hline] at hs
  exact ho s (List.mem_of_mem_drop hs)
end Go.Proofs.Ytokigldggkkbcaa
