/- What the reference's Lines does to a line, step by step: plain lists, no program. No condition. -/
import Derived.Test.YtfidiiifcmmffaaGreatDoorAsmP8
set_option linter.unusedVariables false
set_option linter.unusedSimpArgs false
namespace Go.Proofs.YtfidiiifcmmffaaGreatDoor
open Go.RowKit Go.RR
open Go.Lib (trimB trimLeftB trimRightB)
theorem w_next {d : UInt8} {l : Bs} {a k : Nat} {c : UInt8} (hak : a ≤ k) (hc : l[k]? = some c) (hno : d ∉ (l.drop a).take (k - a)) (h : c = d) : wordsF d (l.drop a) = (l.drop a).take (k - a) :: wordsF d (l.drop (k + 1)) := by
  obtain ⟨h1, h2⟩ := List.getElem?_eq_some_iff.1 hc
  have e : l.drop a = (l.drop a).take (k - a) ++ d :: l.drop (k + 1) := by
    have h3 : (l.drop a).drop (k - a) = c :: l.drop (k + 1) := by
      rw [List.drop_drop, show a + (k - a) = k by omega, ← h2, List.drop_eq_getElem_cons h1]
    rw [h] at h3
    rw [← h3, List.take_append_drop]
  conv => lhs; rw [e]
  exact words_at hno
theorem w_no {d : UInt8} {l : Bs} {a k : Nat} {c : UInt8} (hak : a ≤ k) (hc : l[k]? = some c) (hno : d ∉ (l.drop a).take (k - a)) (h : c ≠ d) : d ∉ (l.drop a).take (k + 1 - a) := by
  rw [show k + 1 - a = (k - a) + 1 by omega, List.take_add_one, List.getElem?_drop, show a + (k - a) = k by omega, hc, Option.toList_some, List.mem_append, not_or]
  exact ⟨hno, by rw [List.mem_singleton]; exact fun e => h e.symm⟩
theorem w_end {d : UInt8} {l : Bs} {a : Nat} (hno : d ∉ (l.drop a).take (l.length - a)) : wordsF d (l.drop a) = [(l.drop a).take (l.length - a)] := by
  have e : (l.drop a).take (l.length - a) = l.drop a := List.take_of_length_le (by rw [List.length_drop]; exact Nat.le_refl _)
  rw [e] at hno ⊢
  exact words_no hno
/-- Up to the first '#'. -/
def hashF (T : Bs) : Bs := T.takeWhile fun c => decide (c ≠ 35)
theorem hash_all {T : Bs} (h : (35 : UInt8) ∉ T) : hashF T = T := (span_all (p := fun c : UInt8 => decide (c ≠ 35)) fun c hc => by simp; rintro rfl; exact h hc).1
theorem hash_at {T : Bs} {q : Nat} (h : (35 : UInt8) ∉ T.take q) (hc : T[q]? = some 35) : hashF T = T.take q := by
  obtain ⟨h1, h2⟩ := List.getElem?_eq_some_iff.1 hc
  have e : T = T.take q ++ 35 :: T.drop (q + 1) := by
    rw [← h2]
    simp
  conv => lhs; rw [e]
  exact (span_at (p := fun c : UInt8 => decide (c ≠ 35)) (fun x hx => by simp; rintro rfl; exact h hx) (by simp)).1
theorem hash_no {T : Bs} {q : Nat} {c : UInt8} (h : (35 : UInt8) ∉ T.take q) (hc : T[q]? = some c) (hn : c ≠ 35) : (35 : UInt8) ∉ T.take (q + 1) := by
  rw [List.take_add_one, hc, Option.toList_some, List.mem_append, not_or]
  exact ⟨h, by rw [List.mem_singleton]; exact fun e => hn e.symm⟩
theorem trim_head (r : Bs) : trimB (32 :: r) 32 = trimB r 32 := by
  unfold trimB trimRightB trimLeftB
  rw [List.reverse_cons, List.dropWhile_append]
  cases h : r.reverse.dropWhile (· == 32) with
  | nil => rfl
  | cons x y =>
    show (((x :: y) ++ [32]).reverse.dropWhile (· == 32)) = _
    rw [List.reverse_append]
    rfl
theorem trim_last (r : Bs) : trimB (r ++ [32]) 32 = trimB r 32 := by
  unfold trimB trimRightB
  rw [List.reverse_append]
  rfl
theorem dw_id {m : Bs} (h : m.head? ≠ some 32) : m.dropWhile (· == 32) = m := by
  cases m with
  | nil => rfl
  | cons c m => rw [List.dropWhile_cons_of_neg (by simp; rintro rfl; exact h rfl)]
theorem trim_ends {l : Bs} (h1 : l.head? ≠ some 32) (h2 : l.getLast? ≠ some 32) : trimB l 32 = l := by
  unfold trimB trimRightB trimLeftB
  rw [dw_id (m := l.reverse) (by rw [List.head?_reverse]; exact h2), List.reverse_reverse, dw_id h1]
theorem head_init {r : Bs} {c : UInt8} (h : (r ++ [c]).head? ≠ some 32) : r.head? ≠ some 32 := by
  cases r with
  | nil => simp
  | cons x r => exact h
theorem snoc_of {l : Bs} (h : l ≠ []) : ∃ r c, l = r ++ [c] := ⟨l.dropLast, l.getLast h, (List.dropLast_concat_getLast h).symm⟩
end Go.Proofs.YtfidiiifcmmffaaGreatDoor
