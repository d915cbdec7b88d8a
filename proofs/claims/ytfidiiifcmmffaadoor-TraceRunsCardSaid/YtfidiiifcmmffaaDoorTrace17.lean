/- A script's text, by the program: the parts. No condition. -/
import Derived.Test.YtfidiiifcmmffaaDoorTrace16
import Derived.Test.YtfidiiifcmmffaaDoorBuilder
set_option linter.unusedVariables false
set_option linter.unusedSimpArgs false
namespace Go.Proofs.YtfidiiifcmmffaaDoor
open Go.RowKit Go.RR

theorem builder_chg {T e : TypeId} {B b : Nat} {bs : List Value} {w w' : World} (h : Go.Lib.IsBuilder T e B b bs w) (c : Chg NoB w w') : Go.Lib.IsBuilder T e B b bs w' := by
  have go : ∀ p, Go.Lib.BuilderAt T e B b p bs w → Go.Lib.BuilderAt T e B b p bs w' := by
    rintro p ⟨hB, v, hbk, hown, hne⟩
    exact ⟨hB, v, (c.block b (Array.getElem?_eq_some_iff.1 hbk).1 id).trans hbk, c.owns hown, hne⟩
  rcases h with h | h
  · exact .inl (go _ h)
  · exact .inr (go _ h)
theorem builder_new (w : World) : Go.Lib.IsBuilder 63 5 w.heap.size w.heap.size [] (w.alloc (.cells #[.pointer none, .slice none 0 0] 63)) :=
  .inl ⟨Nat.le_refl _, .slice none 0 0, heap_alloc_new w _, ⟨rfl, .inl ⟨rfl, rfl⟩⟩, by simp [Value.ownBlock]⟩
theorem chg_below {w wr w' : World} (h : Chg NoB w wr) (b : Below w.heap.size wr w') : Chg NoB w w' := by
  obtain ⟨b1, b2, b3, b4, b5⟩ := b
  exact ⟨b1.trans h.os, b2.trans h.tape, b3.trans h.output, Nat.le_trans h.size b4, fun k hk hn => (b5 k hk).trans (h.block k hk hn)⟩
theorem str_byte (x : Bs) : Go.Lib.strCells ⟨x.toArray⟩ = Go.Lib.byteCells x := rfl
theorem runN_eq {a : Ac} {r : List Ac} {m : Nat} (h : ∀ j, j < m → r[j]? = some a) (h2 : r[m]? ≠ some a) : runN a r = m := by
  have e : r = List.replicate m a ++ r.drop m := by
    conv => lhs; rw [← List.take_append_drop m r]
    congr 1
    apply List.ext_getElem?
    intro j
    rw [List.getElem?_take]
    split
    · rename_i hj
      rw [h j hj, List.getElem?_replicate, if_pos hj]
    · rename_i hj
      rw [List.getElem?_replicate, if_neg hj]
  rw [e]
  refine run_rep a m ?_
  rw [List.head?_drop]
  exact h2
theorem print_step {l : List Ac} {i n : Nat} {a : Ac} (hn : 1 ≤ n) (ha : actF a ≠ []) (h : ∀ j, j < n → l[i + j]? = some a) (h2 : l[i + n]? ≠ some a) :
    printG (l.length - i) (l.drop i) = (printG (l.length - (i + n)) (l.drop (i + n))).map (fun r => lineT a n ++ 10 :: r) := by
  have h0 := h 0 (by omega)
  rw [Nat.add_zero] at h0
  obtain ⟨hl, he⟩ := List.getElem?_eq_some_iff.1 h0
  have hlt : i + n ≤ l.length := by
    have := (List.getElem?_eq_some_iff.1 (h (n - 1) (by omega))).1
    omega
  have hd : l.drop i = a :: l.drop (i + 1) := by rw [List.drop_eq_getElem_cons hl, he]
  have hr : runN a (l.drop (i + 1)) = n - 1 := by
    refine runN_eq (fun j hj => ?_) ?_
    · rw [List.getElem?_drop, show i + 1 + j = i + (j + 1) by omega]
      exact h (j + 1) (by omega)
    · rw [List.getElem?_drop, show i + 1 + (n - 1) = i + n by omega]
      exact h2
  obtain ⟨f, hf⟩ : ∃ f, l.length - i = f + 1 := ⟨l.length - i - 1, by omega⟩
  rw [hd, hf, printG, if_neg ha, hr, List.drop_drop, show i + 1 + (n - 1) = i + n by omega, show n - 1 + 1 = n by omega]
  rw [printG_fuel f (l.length - (i + n)) _ (by rw [List.length_drop]; omega) (by rw [List.length_drop]; exact Nat.le_refl _)]
  cases printG (l.length - (i + n)) (l.drop (i + n)) <;> rfl
theorem print_none {l : List Ac} {i : Nat} {a : Ac} (h : l[i]? = some a) (ha : actF a = []) : printG (l.length - i) (l.drop i) = none := by
  obtain ⟨hl, he⟩ := List.getElem?_eq_some_iff.1 h
  obtain ⟨f, hf⟩ : ∃ f, l.length - i = f + 1 := ⟨l.length - i - 1, by omega⟩
  rw [List.drop_eq_getElem_cons hl, he, hf, printG, if_pos ha]
end Go.Proofs.YtfidiiifcmmffaaDoor
