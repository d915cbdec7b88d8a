/- A text cut at each ", ": plain. No condition. -/
import Derived.Test.YtfidiiifcmmffaaGreatDoorTraceP2
set_option linter.unusedVariables false
set_option linter.unusedSimpArgs false
namespace Go.Proofs.YtfidiiifcmmffaaGreatDoor
open Go.Lib

/-- s cut at each ", ". -/
def sepF : Bs → List Bs
  | [] => [[]]
  | [b] => [[b]]
  | a :: b :: s => if a = 44 ∧ b = 32 then [] :: sepF s else match sepF (b :: s) with
    | [] => [[a]]
    | x :: xs => (a :: x) :: xs
theorem sep_ne : ∀ (s : Bs), ∃ x xs, sepF s = x :: xs
  | [] => ⟨_, _, rfl⟩
  | [b] => ⟨_, _, rfl⟩
  | a :: b :: s => by
    unfold sepF
    split
    · exact ⟨_, _, rfl⟩
    · split <;> exact ⟨_, _, rfl⟩
theorem sep_step {a b : UInt8} {s x : Bs} {xs : List Bs} (h : ¬ (a = 44 ∧ b = 32)) (e : sepF (b :: s) = x :: xs) : sepF (a :: b :: s) = (a :: x) :: xs := by rw [sepF, if_neg h, e]
theorem join_sep (x : Bs) (y : Bs) (ys : List Bs) : join (x :: y :: ys) [44, 32] = x ++ 44 :: 32 :: join (y :: ys) [44, 32] := by
  rw [join_cons, join_cons]
  show x ++ (([44, 32] ++ y) ++ joinTail [44, 32] ys) = _
  simp
theorem sep_join : ∀ (s : Bs), join (sepF s) [44, 32] = s
  | [] => by rw [show sepF [] = [[]] from rfl, join_one]
  | [b] => by rw [show sepF [b] = [[b]] from rfl, join_one]
  | a :: b :: s => by
    unfold sepF
    split
    · rename_i h
      obtain ⟨x, xs, e⟩ := sep_ne s
      have ih := sep_join s
      rw [e] at ih ⊢
      rw [join_sep, ih, h.1, h.2]
      rfl
    · obtain ⟨x, xs, e⟩ := sep_ne (b :: s)
      have ih := sep_join (b :: s)
      rw [e] at ih ⊢
      show join ((a :: x) :: xs) [44, 32] = _
      rw [join_cons] at ih ⊢
      rw [List.cons_append, ih]
theorem sep_no : ∀ {s : Bs}, (44 : UInt8) ∉ s → sepF s = [s]
  | [], _ => rfl
  | [b], _ => rfl
  | a :: b :: s, h => by
    rw [List.mem_cons, not_or] at h
    exact sep_step (fun e => h.1 e.1.symm) (sep_no h.2)
theorem sep_at : ∀ {a b : Bs}, (44 : UInt8) ∉ a → sepF (a ++ 44 :: 32 :: b) = a :: sepF b
  | [], b, _ => by rw [List.nil_append, sepF, if_pos ⟨rfl, rfl⟩]
  | [x], b, h => by
    have hx : x ≠ 44 := fun e => h (by rw [e]; exact List.mem_cons_self ..)
    exact sep_step (fun e => hx e.1) (by rw [sepF, if_pos ⟨rfl, rfl⟩])
  | x :: y :: a, b, h => by
    rw [List.mem_cons, not_or] at h
    exact sep_step (fun e => h.1 e.1.symm) (sep_at h.2)
theorem sep_of : ∀ (x : Bs) (xs : List Bs), (∀ y ∈ x :: xs, (44 : UInt8) ∉ y) → sepF (join (x :: xs) [44, 32]) = x :: xs
  | x, [], h => by rw [join_one]; exact sep_no (h x (List.mem_cons_self ..))
  | x, y :: ys, h => by
    rw [join_sep, sep_at (h x (List.mem_cons_self ..)), sep_of y ys fun z hz => h z (List.mem_cons_of_mem _ hz)]

theorem sep_index : ∀ (s : Bs), (index s [44, 32] = -1 ∧ sepF s = [s]) ∨ ∃ i : Nat, index s [44, 32] = i ∧ i + 2 ≤ s.length ∧ sepF s = s.take i :: sepF (s.drop (i + 2))
  | [] => .inl ⟨rfl, rfl⟩
  | [b] => .inl ⟨by unfold index; simp [List.isPrefixOf, index], rfl⟩
  | a :: b :: s => by
    by_cases h : a = 44 ∧ b = 32
    · obtain ⟨rfl, rfl⟩ := h
      refine .inr ⟨0, by unfold index; simp [List.isPrefixOf], by simp, ?_⟩
      rw [sepF, if_pos ⟨rfl, rfl⟩]
      rfl
    · have hp : ([44, 32].isPrefixOf (a :: b :: s)) = false := by
        simp [List.isPrefixOf]
        intro e1 e2
        exact h ⟨e1.symm, e2.symm⟩
      have hs : sepF (a :: b :: s) = match sepF (b :: s) with | [] => [[a]] | x :: xs => (a :: x) :: xs := by rw [sepF, if_neg h]
      have hi : index (a :: b :: s) [44, 32] = if index (b :: s) [44, 32] == -1 then -1 else index (b :: s) [44, 32] + 1 := by
        conv => lhs; unfold index
        rw [hp]
        rfl
      rcases sep_index (b :: s) with ⟨h1, h2⟩ | ⟨i, h1, h2, h3⟩
      · refine .inl ⟨by rw [hi, h1]; rfl, by rw [hs, h2]⟩
      · refine .inr ⟨i + 1, ?_, by simp only [List.length_cons] at h2 ⊢; omega, ?_⟩
        · rw [hi, h1]
          have e : ((i : Int) == -1) = false := by rw [beq_eq_false_iff_ne]; omega
          rw [e]
          simp
        · rw [hs, h3]
          rfl
theorem splitK_sep : ∀ (k : Nat) (s : Bs) (f : Nat), s.length < f → countFrom [44, 32] f s ≤ k → splitK [44, 32] 0 k s = sepF s
  | 0, s, 0, hf, hk => by omega
  | 0, s, f + 1, hf, hk => by
    rcases sep_index s with ⟨h1, h2⟩ | ⟨i, h1, h2, h3⟩
    · rw [h2]; rfl
    · unfold countFrom at hk
      have e : (index s [44, 32] == -1) = false := by rw [h1, beq_eq_false_iff_ne]; omega
      rw [e] at hk
      simp at hk
  | k + 1, s, 0, hf, hk => by omega
  | k + 1, s, f + 1, hf, hk => by
    unfold splitK
    rcases sep_index s with ⟨h1, h2⟩ | ⟨i, h1, h2, h3⟩
    · rw [h1, h2]; rfl
    · have e : (index s [44, 32] == -1) = false := by rw [h1, beq_eq_false_iff_ne]; omega
      unfold countFrom at hk
      rw [e] at hk ⊢
      simp only [Bool.false_eq_true, if_false, h1, Int.toNat_natCast, Nat.add_zero, List.length_cons, List.length_nil, Nat.zero_add, Nat.reduceAdd] at hk ⊢
      rw [h3, splitK_sep k (s.drop (i + 2)) f (by rw [List.length_drop]; omega) (by omega)]
theorem split_sep (s : Bs) : splitK [44, 32] 0 (count s [44, 32]) s = sepF s := splitK_sep _ _ _ (Nat.lt_succ_self _) (Nat.le_refl _)
end Go.Proofs.YtfidiiifcmmffaaGreatDoor
