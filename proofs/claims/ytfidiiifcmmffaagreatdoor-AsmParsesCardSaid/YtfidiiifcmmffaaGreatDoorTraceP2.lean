/- A text cut at one byte: plain. No condition. -/
import Derived.Lib.Split
import Derived.Lib.Join
import Derived.Test.YtfidiiifcmmffaaGreatDoorTraceP1
set_option linter.unusedVariables false
set_option linter.unusedSimpArgs false
namespace Go.Proofs.YtfidiiifcmmffaaGreatDoor
open Go.Lib

/-- s cut at each c. -/
def wordsF (c : UInt8) : Bs → List Bs
  | [] => [[]]
  | b :: s => if b = c then [] :: wordsF c s else match wordsF c s with
    | [] => [[b]]
    | x :: xs => (b :: x) :: xs
theorem words_ne (c : UInt8) (s : Bs) : ∃ x xs, wordsF c s = x :: xs := by
  cases s with
  | nil => exact ⟨_, _, rfl⟩
  | cons b s =>
    unfold wordsF
    split
    · exact ⟨_, _, rfl⟩
    · split
      · exact ⟨_, _, rfl⟩
      · exact ⟨_, _, rfl⟩
theorem words_no {c : UInt8} : ∀ {s : Bs}, c ∉ s → wordsF c s = [s]
  | [], _ => rfl
  | b :: s, h => by
    rw [List.mem_cons, not_or] at h
    unfold wordsF
    rw [if_neg (fun e => h.1 e.symm), words_no h.2]
theorem words_at {c : UInt8} : ∀ {a b : Bs}, c ∉ a → wordsF c (a ++ c :: b) = a :: wordsF c b
  | [], b, _ => by show wordsF c (c :: b) = _; rw [wordsF, if_pos rfl]
  | x :: a, b, h => by
    rw [List.mem_cons, not_or] at h
    rw [List.cons_append, wordsF, if_neg (fun e => h.1 e.symm), words_at h.2]
theorem idx_no {c : UInt8} : ∀ {s : Bs}, c ∉ s → index s [c] = -1
  | [], _ => rfl
  | b :: s, h => by
    rw [List.mem_cons, not_or] at h
    unfold index
    have : ([c].isPrefixOf (b :: s)) = false := by simp [List.isPrefixOf, h.1]
    rw [this, idx_no h.2]
    rfl
theorem idx_at {c : UInt8} : ∀ {a b : Bs}, c ∉ a → index (a ++ c :: b) [c] = a.length
  | [], b, _ => by show index (c :: b) [c] = 0; unfold index; simp [List.isPrefixOf]
  | x :: a, b, h => by
    rw [List.mem_cons, not_or] at h
    rw [List.cons_append]
    unfold index
    have : ([c].isPrefixOf (x :: (a ++ c :: b))) = false := by simp [List.isPrefixOf, h.1]
    rw [this, idx_at h.2]
    have e : ((a.length : Int) == -1) = false := by rw [beq_eq_false_iff_ne]; omega
    rw [e]
    simp only [Bool.false_eq_true, if_false, List.length_cons]
    omega
theorem first_at {c : UInt8} {s : Bs} (h : c ∈ s) : ∃ a b, s = a ++ c :: b ∧ c ∉ a := by
  obtain ⟨a, b, e, hn⟩ := List.eq_append_cons_of_mem h
  exact ⟨a, b, e, hn⟩
theorem splitK_words {c : UInt8} : ∀ (k : Nat) (s : Bs), s.count c ≤ k → splitK [c] 0 k s = wordsF c s
  | 0, s, h => by
    have : c ∉ s := fun hm => by have := List.count_pos_iff.2 hm; omega
    rw [words_no this]; rfl
  | k + 1, s, h => by
    unfold splitK
    by_cases hm : c ∈ s
    · obtain ⟨a, b, rfl, hn⟩ := first_at hm
      rw [idx_at hn, words_at hn]
      have e : ((a.length : Int) == -1) = false := by rw [beq_eq_false_iff_ne]; omega
      rw [e]
      have hc : b.count c ≤ k := by
        rw [List.count_append, List.count_cons_self] at h
        omega
      simp only [Bool.false_eq_true, if_false, Int.toNat_natCast, Nat.add_zero, List.length_cons, List.length_nil, Nat.zero_add]
      rw [List.take_left, ← splitK_words k b hc]
      congr 2
      rw [show a ++ c :: b = (a ++ [c]) ++ b by simp, show a.length + 1 = (a ++ [c]).length by simp, List.drop_left]
    · rw [idx_no hm, words_no hm]
      rfl
theorem countFrom_words {c : UInt8} : ∀ (k : Nat) (s : Bs), s.length < k → countFrom [c] k s = s.count c
  | 0, s, h => by omega
  | k + 1, s, h => by
    unfold countFrom
    by_cases hm : c ∈ s
    · obtain ⟨a, b, rfl, hn⟩ := first_at hm
      rw [idx_at hn]
      have e : ((a.length : Int) == -1) = false := by rw [beq_eq_false_iff_ne]; omega
      rw [e]
      simp only [List.length_append, List.length_cons] at h
      simp only [Bool.false_eq_true, if_false, Int.toNat_natCast, List.length_cons, List.length_nil, Nat.zero_add]
      have e2 : (a ++ c :: b).drop (a.length + 1) = b := by
        rw [show a ++ c :: b = (a ++ [c]) ++ b by simp, show a.length + 1 = (a ++ [c]).length by simp, List.drop_left]
      rw [e2, countFrom_words k b (by omega), List.count_append, List.count_cons_self, List.count_eq_zero_of_not_mem hn]
      omega
    · rw [idx_no hm, List.count_eq_zero_of_not_mem hm]
      rfl
theorem count_words {c : UInt8} (s : Bs) : count s [c] = s.count c := countFrom_words _ _ (by omega)
theorem split_words {c : UInt8} (s : Bs) : splitK [c] 0 (count s [c]) s = wordsF c s := splitK_words _ _ (by rw [count_words]; exact Nat.le_refl _)
theorem words_len {c : UInt8} : ∀ (s : Bs), (wordsF c s).length = s.count c + 1
  | [] => rfl
  | b :: s => by
    unfold wordsF
    by_cases h : b = c
    · rw [if_pos h, List.length_cons, words_len s, h, List.count_cons_self]
    · rw [if_neg h, List.count_cons_of_ne h, ← words_len s]
      obtain ⟨x, xs, e⟩ := words_ne c s
      rw [e]
      rfl
/-- The pieces, joined again; no piece holds the byte. -/
theorem words_join {c : UInt8} : ∀ (s : Bs), join (wordsF c s) [c] = s
  | [] => by rw [show wordsF c [] = [[]] from rfl, join_one]
  | b :: s => by
    obtain ⟨x, xs, e⟩ := words_ne c s
    have ih := words_join (c := c) s
    rw [e, join_cons] at ih
    unfold wordsF
    by_cases h : b = c
    · rw [if_pos h, e, join_cons, h]
      show [] ++ (([c] ++ x) ++ joinTail [c] xs) = c :: s
      rw [← ih]
      simp
    · rw [if_neg h, e]
      show join ((b :: x) :: xs) [c] = b :: s
      rw [join_cons, List.cons_append, ih]
theorem words_mem {c : UInt8} : ∀ (s : Bs) (x : Bs), x ∈ wordsF c s → c ∉ x
  | [], x, h => by rw [show wordsF c [] = [[]] from rfl, List.mem_singleton] at h; rw [h]; simp
  | b :: s, x, h => by
    unfold wordsF at h
    by_cases hb : b = c
    · rw [if_pos hb] at h
      rcases List.mem_cons.1 h with h | h
      · rw [h]; simp
      · exact words_mem s x h
    · rw [if_neg hb] at h
      obtain ⟨y, ys, e⟩ := words_ne c s
      rw [e] at h
      rcases List.mem_cons.1 h with h | h
      · rw [h, List.mem_cons, not_or]
        exact ⟨fun e => hb e.symm, words_mem s y (by rw [e]; exact List.mem_cons_self ..)⟩
      · exact words_mem s x (by rw [e]; exact List.mem_cons_of_mem _ h)
/-- Pieces without the byte, joined, are cut into these. -/
theorem words_of {c : UInt8} : ∀ (x : Bs) (xs : List Bs), (∀ y ∈ x :: xs, c ∉ y) → wordsF c (join (x :: xs) [c]) = x :: xs
  | x, [], h => by rw [join_one]; exact words_no (h x (List.mem_cons_self ..))
  | x, y :: ys, h => by
    have e : join (x :: y :: ys) [c] = x ++ c :: join (y :: ys) [c] := by
      rw [join_cons, join_cons]
      show x ++ (([c] ++ y) ++ joinTail [c] ys) = _
      simp
    rw [e, words_at (h x (List.mem_cons_self ..)), words_of y ys fun z hz => h z (List.mem_cons_of_mem _ hz)]
end Go.Proofs.YtfidiiifcmmffaaGreatDoor
