/- The reference's printing; two runs of like acts: plain. No condition. -/
import Derived.Test.YtfidiiifcmmffaaDoorTraceP4
set_option linter.unusedVariables false
set_option linter.unusedSimpArgs false
namespace Go.Proofs.YtfidiiifcmmffaaDoor
open Go.Lib

/-- The reference's printing: what is still to be written behind n like acts. -/
def refG : List Ac → Nat → Option Bs
  | [], _ => some []
  | a :: l, n => if actF a = [] then none
    else if l.head? = some a ∧ n + 1 < 100000 then refG l (n + 1)
    else match refG l 0 with
      | none => none
      | some t => some (lineT a (n + 1) ++ 10 :: t)
theorem run_cons (a : Ac) (l : List Ac) : runN a (a :: l) = runN a l + 1 := by
  unfold runN
  rw [List.takeWhile_cons_of_pos (by simp)]
  rfl
theorem run_other {a : Ac} {l : List Ac} (h : l.head? ≠ some a) : runN a l = 0 := by
  cases l with
  | nil => rfl
  | cons b l =>
    have : b ≠ a := fun e => h (by rw [e]; rfl)
    unfold runN
    rw [List.takeWhile_cons_of_neg (by simp [this])]
    rfl
theorem refG_run : ∀ (f : Nat) (a : Ac) (l : List Ac) (n : Nat), l.length ≤ f → n + l.length + 1 < 100000 →
    refG (a :: l) n = if actF a = [] then none else match printG f (l.drop (runN a l)) with
      | none => none
      | some t => some (lineT a (n + runN a l + 1) ++ 10 :: t)
  | f, a, l, n, hf, hn => by
    match l, hf, hn with
    | [], hf, hn =>
      have e0 : printG f ([] : List Ac) = some [] := by cases f <;> rfl
      simp only [refG, List.head?_nil, reduceCtorEq, false_and, if_false, run_other (a := a) (l := []) (by simp), List.drop_nil, e0, Nat.add_zero]
    | b :: l, hf, hn =>
      simp only [List.length_cons] at hf hn
      obtain ⟨f', rfl⟩ : ∃ f', f = f' + 1 := ⟨f - 1, by omega⟩
      rw [refG]
      by_cases hb : b = a
      · subst hb
        rw [if_pos (c := (b :: l).head? = some b ∧ n + 1 < 100000) ⟨rfl, by omega⟩, run_cons, List.drop_succ_cons, refG_run (f' + 1) b l (n + 1) (by omega) (by omega)]
        by_cases ha : actF b = []
        · rw [if_pos ha, if_pos ha]
        · rw [if_neg ha, if_neg ha, if_neg ha, show n + 1 + runN b l + 1 = n + (runN b l + 1) + 1 by omega]
      · have h1 : ¬ ((b :: l).head? = some a ∧ n + 1 < 100000) := fun h => hb (by simpa using h.1)
        rw [if_neg h1, run_other (a := a) (l := b :: l) (by simpa using hb), List.drop_zero, Nat.add_zero]
        rw [refG_run f' b l 0 (by omega) (by omega)]
        by_cases ha : actF a = []
        · rw [if_pos ha, if_pos ha]
        · rw [if_neg ha, if_neg ha]
          rw [show printG (f' + 1) (b :: l) = (if actF b = [] then none else match printG f' (l.drop (runN b l)) with
            | none => none
            | some t => some (lineT b (0 + runN b l + 1) ++ 10 :: t)) by rw [printG, Nat.zero_add]; rfl]
theorem refG_print (l : List Ac) (h : l.length < 100000) : refG l 0 = printF l := by
  cases l with
  | nil => rfl
  | cons a l =>
    simp only [List.length_cons] at h
    rw [refG_run l.length a l 0 (by omega) (by omega)]
    unfold printF
    rw [List.length_cons, printG, Nat.zero_add]
    rfl
theorem printG_none : ∀ (f : Nat) (l : List Ac), l.length ≤ f → (printG f l = none ↔ ∃ a ∈ l, actF a = [])
  | f, [], hf => by cases f <;> simp [printG]
  | 0, a :: l, hf => by simp at hf
  | f + 1, a :: l, hf => by
    simp only [List.length_cons] at hf
    rw [printG]
    by_cases ha : actF a = []
    · rw [if_pos ha]; simp [ha]
    · rw [if_neg ha]
      have ih := printG_none f (l.drop (runN a l)) (by rw [List.length_drop]; omega)
      have hs : (∃ b ∈ a :: l, actF b = []) ↔ ∃ b ∈ l.drop (runN a l), actF b = [] := by
        constructor
        · rintro ⟨b, hb, e⟩
          rcases List.mem_cons.1 hb with h | h
          · rw [h] at e; exact absurd e ha
          · rw [run_take a l] at h
            rcases List.mem_append.1 h with h | h
            · rw [(List.mem_replicate.1 h).2] at e; exact absurd e ha
            · exact ⟨b, h, e⟩
        · rintro ⟨b, hb, e⟩
          exact ⟨b, List.mem_cons_of_mem _ (List.mem_of_mem_drop hb), e⟩
      rw [hs, ← ih]
      cases printG f (l.drop (runN a l)) <;> simp
theorem printF_none (l : List Ac) : printF l = none ↔ ∃ a ∈ l, actF a = [] := printG_none _ _ (Nat.le_refl _)
theorem lineT_ne {a : Ac} (n : Nat) (h : actF a ≠ []) : lineT a n ≠ [] := by
  unfold lineT
  split
  · exact h
  · simp
theorem printF_nil {l : List Ac} {t : Bs} (h : printF l = some t) (ht : t = []) : l = [] := by
  cases l with
  | nil => rfl
  | cons a l =>
    unfold printF at h
    rw [List.length_cons, printG] at h
    split at h
    · cases h
    · split at h
      · cases h
      · injection h with h
        rw [ht] at h
        simp at h
/-- Two runs. -/
theorem run_rep (a : Ac) (n : Nat) {l : List Ac} (h : l.head? ≠ some a) : runN a (List.replicate n a ++ l) = n := by
  induction n with
  | zero => exact run_other h
  | succ n ih => rw [List.replicate_succ, List.cons_append, run_cons, ih]
theorem print_rep {a : Ac} (ha : actF a ≠ []) (n : Nat) {l : List Ac} (h : l.head? ≠ some a) {t : Bs} (f : Nat) (ht : printG f l = some t) : printG (f + 1) (List.replicate (n + 1) a ++ l) = some (lineT a (n + 1) ++ 10 :: t) := by
  rw [List.replicate_succ, List.cons_append, printG, if_neg ha, run_rep a n h, List.drop_left' (by simp), ht]
theorem printG_fuel : ∀ (f g : Nat) (l : List Ac), l.length ≤ f → l.length ≤ g → printG f l = printG g l
  | f, g, [], _, _ => by cases f <;> cases g <;> rfl
  | 0, _, a :: l, h, _ => by simp at h
  | _, 0, a :: l, _, h => by simp at h
  | f + 1, g + 1, a :: l, hf, hg => by
    simp only [List.length_cons] at hf hg
    rw [printG, printG, printG_fuel f g _ (by rw [List.length_drop]; omega) (by rw [List.length_drop]; omega)]
theorem print_two {a b : Ac} (ha : actF a ≠ []) (hb : actF b ≠ []) (hab : a ≠ b) (n m : Nat) :
    printF (List.replicate (n + 1) a ++ List.replicate m b) = some (lineT a (n + 1) ++ 10 :: (if m = 0 then [] else lineT b m ++ [10])) := by
  have hh : (List.replicate m b).head? ≠ some a := by
    cases m with
    | zero => simp
    | succ m => rw [List.replicate_succ]; simp; exact fun e => hab e.symm
  have hm : printG m (List.replicate m b) = some (if m = 0 then [] else lineT b m ++ [10]) := by
    cases m with
    | zero => rfl
    | succ m =>
      have := print_rep hb m (l := []) (by simp) (t := []) m (by cases m <;> rfl)
      rw [List.append_nil] at this
      rw [this]
      rfl
  unfold printF
  rw [printG_fuel _ (m + n + 1 + 1) _ (Nat.le_refl _) (by simp; omega)]
  refine print_rep ha n hh (m + n + 1) ?_
  rw [printG_fuel _ m _ (by simp; omega) (by simp)]
  exact hm
theorem lineT_count {a : Ac} {n : Nat} (h : actF a ≠ []) : (lineT a n).count 10 = 0 := by
  obtain ⟨ws, hw⟩ : ∃ ws, wordsOf a = some ws := by
    cases e : wordsOf a with
    | none => exact absurd (actF_nil.2 e) h
    | some ws => exact ⟨ws, rfl⟩
  exact List.count_eq_zero_of_not_mem fun hm => (lineT_mem hw n _ hm).1 rfl
end Go.Proofs.YtfidiiifcmmffaaDoor
