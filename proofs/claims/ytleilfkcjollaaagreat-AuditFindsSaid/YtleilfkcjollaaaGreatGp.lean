/- The buffer of entries: an entry is filled in. No condition. -/
import Derived.Test.YtleilfkcjollaaaGreatGo
import Derived.Test.YtleilfkcjollaaaGreatGh
set_option linter.unusedVariables false
set_option linter.unusedSimpArgs false
namespace Go.Proofs.YtleilfkcjollaaaGreat
open Go.RowKit Go.RR
theorem wcells_set_get {l : List Way} {k : Nat} {n : Way} (hk : k < l.length) (i : Nat) : (wcells (l.set k n))[i]? = if 15 * k ≤ i ∧ i < 15 * k + 15 then n.cs[i - 15 * k]? else (wcells l)[i]? := by
  have hdiv : i = 15 * (i / 15) + i % 15 := by omega
  have hm : i % 15 < 15 := Nat.mod_lt _ (by omega)
  by_cases h : 15 * k ≤ i ∧ i < 15 * k + 15
  · rw [if_pos h]
    have hq : i / 15 = k := by omega
    have := wcells_get (l := l.set k n) (k := k) (j := i % 15) (e := n) (by rw [List.getElem?_set_self hk]) hm
    rw [show 15 * k + i % 15 = i by omega] at this
    rw [this, show i - 15 * k = i % 15 by omega]
  · rw [if_neg h]
    by_cases hl : i / 15 < l.length
    · have h1 := wcells_get (l := l.set k n) (k := i / 15) (j := i % 15) (e := l[i / 15]) (by rw [List.getElem?_set_ne (by omega), List.getElem?_eq_getElem hl]) hm
      have h2 := wcells_get (l := l) (k := i / 15) (j := i % 15) (e := l[i / 15]) (List.getElem?_eq_getElem hl) hm
      rw [← hdiv] at h1 h2
      rw [h1, h2]
    · rw [List.getElem?_eq_none (by rw [wcells_len, List.length_set]; omega), List.getElem?_eq_none (by rw [wcells_len]; omega)]
/-- A way that is stored whole. -/
theorem way_store {w : World} {G : Nat} {T : TypeId} {l : List Way} (h : Blk w G (wcells l).toArray T) {k : Nat} (hk : k < l.length) (n : Way) :
    Blk (w.setCells G (k * 15) n.cs) G (wcells (l.set k n)).toArray T ∧ Chg (· = G) w (w.setCells G (k * 15) n.cs) := by
  have hl : (wcells l).length = l.length * 15 := wcells_len l
  obtain ⟨c', k1, k2, k3, k4, k5, k6, k7, k8, k9⟩ := setCells_blk n.cs (k * 15) w _ h (by rw [List.size_toArray, hl]; show k * 15 + 15 ≤ _; omega)
  have e : c' = (wcells (l.set k n)).toArray := by
    apply Array.ext_getElem?
    intro i
    rw [show (wcells (l.set k n)).toArray[i]? = (wcells (l.set k n))[i]? from by simp, wcells_set_get hk]
    by_cases hi : 15 * k ≤ i ∧ i < 15 * k + 15
    · rw [if_pos hi]
      have hj : i - 15 * k < n.cs.length := by show _ < 15; omega
      have := k3 (i - 15 * k) n.cs[i - 15 * k] (List.getElem?_eq_getElem hj)
      rw [show k * 15 + (i - 15 * k) = i by omega] at this
      rw [this, List.getElem?_eq_getElem hj]
    · rw [if_neg hi, k4 i (by show i < k * 15 ∨ k * 15 + 15 ≤ i; omega)]
      simp
  rw [e] at k1
  exact ⟨k1, ⟨k7, k8, k9, Nat.le_of_eq k6.symm, fun j _ hj => k5 j hj⟩⟩
theorem TlbIn.put {w w' : World} {S : Nat → Prop} {bb ob cap W : Nat} {gs : Nat → Nat} {cur : Array Value} {b : Tlb} (h : TlbIn w S bb ob cap W gs cur b) {i k : Nat} {l : List Way} {n : Way} (hi : b[i]? = some l) (hn : n.Ok)
    (hb : Blk w' (gs i) (wcells (l.set k n)).toArray 275) (c : Chg (· = gs i) w w') : TlbIn w' S bb ob cap W gs cur (b.set i (l.set k n)) := by
  have hil : i < b.length := (List.getElem?_eq_some_iff.1 hi).1
  obtain ⟨r1, r2, r3, r4⟩ := h.rows i l hi
  refine ⟨by rw [List.length_set]; exact c.blk h.buf (fun e => (h.n1 i hil).1 e.symm), c.blk h.out (fun e => (h.n1 i hil).2 e.symm), by rw [List.length_set]; exact h.cp, by rw [List.length_set]; exact h.sl, fun j m hj => ?_, by rw [List.length_set]; exact h.inj, by rw [List.length_set]; exact h.n1, h.n2, h.s1, h.s2, by rw [List.length_set]; exact h.l1, by rw [List.length_set]; exact h.l2, h.w1, h.w2⟩
  by_cases hij : i = j
  · subst hij
    rw [List.getElem?_set_self hil] at hj
    cases hj
    refine ⟨hb, by rw [List.length_set]; exact r2, r3, fun e he => ?_⟩
    rcases List.mem_or_eq_of_mem_set he with he | he
    · exact r4 e he
    · subst he; exact hn
  · rw [List.getElem?_set_ne hij] at hj
    obtain ⟨q1, q2, q3, q4⟩ := h.rows j m hj
    exact ⟨c.blk q1 (fun e => hij (h.inj i j hil (List.getElem?_eq_some_iff.1 hj).1 e.symm)), q2, q3, q4⟩
end Go.Proofs.YtleilfkcjollaaaGreat
