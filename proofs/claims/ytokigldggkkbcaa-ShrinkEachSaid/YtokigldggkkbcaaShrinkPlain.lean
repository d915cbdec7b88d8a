/- Shrinking a list: what is left and how often it is asked, in plain words. No condition. -/
import Derived.Test.YtokigldggkkbcaaKit
set_option linter.unusedVariables false
namespace Go.RR
open Go.RowKit

section
variable {α : Type}
def without (l : List α) (a k : Nat) : List α := l.take a ++ l.drop (a + k)
def partLen (size n i : Nat) : Nat := size / n + if i < size % n then 1 else 0
def partsOf (size n : Nat) : List Nat := (List.range n).map (partLen size n)
def partOff (size n i : Nat) : Nat := i * (size / n) + min i (size % n)

theorem partOff_zero (size n : Nat) : partOff size n 0 = 0 := by simp [partOff]
theorem partOff_succ (size n i : Nat) : partOff size n (i + 1) = partOff size n i + partLen size n i := by
  unfold partOff partLen
  rw [Nat.add_mul]
  split <;> omega
theorem partOff_all (size n : Nat) (h : 0 < n) : partOff size n n = size := by
  unfold partOff
  have := Nat.mod_lt size h
  have e := Nat.div_add_mod size n
  rw [Nat.min_eq_right (by omega)]
  exact e
theorem partOff_mono (size n : Nat) {i j : Nat} (h : i ≤ j) : partOff size n i ≤ partOff size n j := by
  unfold partOff
  have := Nat.mul_le_mul_right (size / n) h
  omega
theorem partOff_le (size n i : Nat) (h : i ≤ n) (h0 : 0 < n) : partOff size n i ≤ size := by
  have := partOff_mono size n h
  rwa [partOff_all size n h0] at this
theorem partLen_pos (size n i : Nat) (h : n ≤ size) (h0 : 0 < n) : 0 < partLen size n i := by
  unfold partLen
  have := Nat.div_pos h h0
  omega
theorem partLen_le (size n i : Nat) (h : i < n) : partOff size n i + partLen size n i ≤ size := by
  rw [← partOff_succ]
  exact partOff_le size n _ h (by omega)
theorem partLen_one (n i : Nat) (h0 : 0 < n) : partLen n n i = 1 := by
  unfold partLen
  rw [Nat.div_self h0, Nat.mod_self]
  simp
theorem partOff_one (n i : Nat) (h0 : 0 < n) : partOff n n i = i := by
  unfold partOff
  rw [Nat.div_self h0, Nat.mod_self]
  simp
theorem partsOf_len (size n : Nat) : (partsOf size n).length = n := by simp [partsOf]
theorem partsOf_get (size n i : Nat) (h : i < n) : (partsOf size n)[i]? = some (partLen size n i) := by simp [partsOf, h]
theorem partsOf_drop (size n i : Nat) (h : i < n) : (partsOf size n).drop i = partLen size n i :: (partsOf size n).drop (i + 1) := by
  have hl : i < (partsOf size n).length := by rw [partsOf_len]; exact h
  rw [List.drop_eq_getElem_cons hl]
  congr 1
  have := partsOf_get size n i h
  rw [List.getElem?_eq_getElem hl] at this
  exact Option.some.inj this

theorem without_len (l : List α) (a k : Nat) (h : a + k ≤ l.length) : (without l a k).length = l.length - k := by
  simp [without]; omega
theorem without_len_le (l : List α) (a k : Nat) : (without l a k).length ≤ l.length := by
  simp [without]; omega
theorem mem_without {l : List α} {a k : Nat} {x : α} (h : x ∈ without l a k) : x ∈ l := by
  rcases List.mem_append.1 h with h | h
  · exact List.mem_of_mem_take h
  · exact List.mem_of_mem_drop h

/-- The first part that may be left out, and how often it is asked. -/
def lessF (p : List α → Bool) (l : List α) : List Nat → Nat → Option (List α) × Nat
  | [], _ => (none, 0)
  | k :: ps, a => if p (without l a k) then (some (without l a k), 1) else ((lessF p l ps (a + k)).1, (lessF p l ps (a + k)).2 + 1)
def stepsF (p : List α → Bool) : Nat → List α → Nat → List α × Nat
  | 0, l, _ => (l, 0)
  | f + 1, l, n => if l.length = 0 then (l, 0) else
    match lessF p l (partsOf l.length (min n l.length)) 0 with
    | (some w, c) => ((stepsF p f w (max (n - 1) 2)).1, c + (stepsF p f w (max (n - 1) 2)).2)
    | (none, c) => if l.length ≤ n then (l, c) else ((stepsF p f l (min (2 * n) l.length)).1, c + (stepsF p f l (min (2 * n) l.length)).2)
def fuelOf (l : List α) : Nat := l.length * 1000 + 1000
def shrinkF (p : List α → Bool) (l : List α) : List α × Nat :=
  if p l then ((stepsF p (fuelOf l) l 2).1, 1 + (stepsF p (fuelOf l) l 2).2) else (l, 1)

theorem lessF_count (p : List α → Bool) (l : List α) : ∀ (ps : List Nat) (a : Nat), (lessF p l ps a).2 ≤ ps.length
  | [], _ => Nat.le_refl _
  | k :: ps, a => by
    unfold lessF
    split
    · simp
    · have := lessF_count p l ps (a + k)
      simp; exact this

/-- What is found is the list without one part. -/
theorem lessF_some (p : List α → Bool) (l : List α) (n : Nat) (hn : 0 < n) (hl : n ≤ l.length) : ∀ (d i : Nat), i + d = n → ∀ w, (lessF p l ((partsOf l.length n).drop i) (partOff l.length n i)).1 = some w →
    p w = true ∧ w.length < l.length ∧ ∀ x ∈ w, x ∈ l
  | 0, i, hi, w, h => by
    rw [List.drop_of_length_le (by rw [partsOf_len]; omega)] at h
    cases h
  | d + 1, i, hi, w, h => by
    rw [partsOf_drop _ _ _ (by omega)] at h
    unfold lessF at h
    split at h
    · rename_i hp
      cases h
      have h1 := partLen_le l.length n i (by omega)
      have h2 := partLen_pos l.length n i hl hn
      refine ⟨hp, ?_, fun x hx => mem_without hx⟩
      rw [without_len _ _ _ h1]; omega
    · rw [← partOff_succ] at h
      exact lessF_some p l n hn hl d (i + 1) (by omega) w h
theorem lessF_some' (p : List α → Bool) (l : List α) (n : Nat) (hn : 0 < n) (hl : 0 < l.length) {w : List α} {c : Nat} (h : lessF p l (partsOf l.length (min n l.length)) 0 = (some w, c)) :
    p w = true ∧ w.length < l.length ∧ ∀ x ∈ w, x ∈ l := by
  have := lessF_some p l (min n l.length) (by omega) (by omega) (min n l.length) 0 (by omega) w
  rw [partOff_zero, List.drop_zero, h] at this
  exact this rfl
/-- None found: without any part it isn't. -/
theorem lessF_none (p : List α → Bool) (l : List α) (n : Nat) : ∀ (d i : Nat), i + d = n → (lessF p l ((partsOf l.length n).drop i) (partOff l.length n i)).1 = none →
    ∀ j, i ≤ j → j < n → p (without l (partOff l.length n j) (partLen l.length n j)) = false
  | 0, i, hi, h, j, h1, h2 => by omega
  | d + 1, i, hi, h, j, h1, h2 => by
    rw [partsOf_drop _ _ _ (by omega)] at h
    unfold lessF at h
    split at h
    · cases h
    · rename_i hp
      rw [← partOff_succ] at h
      by_cases hj : i = j
      · subst hj; simpa using hp
      · exact lessF_none p l n d (i + 1) (by omega) h j (by omega) h2

set_option maxRecDepth 100000 in
/-- What is left of a bad list is bad, and with any one thing left out isn't. -/
theorem stepsF_least (p : List α → Bool) (f : Nat) : ∀ (l : List α) (n : Nat), 2 ≤ n → n ≤ 999 → l.length ≤ 900 → l.length * 1000 + (1000 - n) ≤ f → p l = true →
    p (stepsF p f l n).1 = true ∧ (stepsF p f l n).1.length ≤ l.length ∧ (∀ x ∈ (stepsF p f l n).1, x ∈ l) ∧ ∀ i, i < (stepsF p f l n).1.length → p (without (stepsF p f l n).1 i 1) = false := by
  induction f with
  | zero => intro l n h2 h9 hl hf hp; omega
  | succ f ih =>
    intro l n h2 h9 hl hf hp
    unfold stepsF
    by_cases h0 : l.length = 0
    · rw [if_pos h0]
      exact ⟨hp, Nat.le_refl _, fun x hx => hx, fun i hi => by simp only at hi; omega⟩
    · rw [if_neg h0]
      cases hr : lessF p l (partsOf l.length (min n l.length)) 0 with
      | mk r c =>
        cases r with
        | some w =>
          obtain ⟨h1, h3, h4⟩ := lessF_some' p l n (by omega) (by omega) hr
          obtain ⟨k1, k2, k3, k4⟩ := ih w (max (n - 1) 2) (by omega) (by omega) (by omega) (by omega) h1
          exact ⟨k1, by simp only; omega, fun x hx => h4 x (k3 x hx), k4⟩
        | none =>
          simp only
          by_cases hn : l.length ≤ n
          · rw [if_pos hn]
            refine ⟨hp, Nat.le_refl _, fun x hx => hx, fun i hi => ?_⟩
            simp only at hi ⊢
            have h5 : min n l.length = l.length := by omega
            rw [h5] at hr
            have := lessF_none p l l.length l.length 0 (by omega) (by rw [partOff_zero, List.drop_zero, hr]) i (by omega) hi
            rwa [partOff_one _ _ (by omega), partLen_one _ _ (by omega)] at this
          · rw [if_neg hn]
            exact ih l (min (2 * n) l.length) (by omega) (by omega) hl (by omega) hp
theorem shrinkF_least (p : List α → Bool) (l : List α) (hl : l.length ≤ 900) (hp : p l = true) :
    p (shrinkF p l).1 = true ∧ (shrinkF p l).1.length ≤ l.length ∧ (∀ x ∈ (shrinkF p l).1, x ∈ l) ∧ ∀ i, i < (shrinkF p l).1.length → p (without (shrinkF p l).1 i 1) = false := by
  unfold shrinkF
  rw [if_pos hp]
  exact stepsF_least p _ l 2 (by omega) (by omega) hl (by unfold fuelOf; omega) hp
theorem shrinkF_not (p : List α → Bool) (l : List α) (hp : p l = false) : shrinkF p l = (l, 1) := by
  unfold shrinkF; rw [hp]; rfl
end
end Go.RR
