/- TraceRuns: plain. No condition. -/
import Derived.Test.YtfidiiifcmmffaaDoorTrace20
import Derived.Test.YtfidiiifcmmffaaDoorTrace23
set_option linter.unusedVariables false
set_option linter.unusedSimpArgs false
namespace Go.Proofs.YtfidiiifcmmffaaDoor
open Go.RowKit Go.RR
/-- "tick x100000\n#\n" -/
def T3 : Bs := [116, 105, 99, 107, 32, 120, 49, 48, 48, 48, 48, 48, 10, 35, 10]
theorem count_take {l : Bs} {k : Nat} {c : UInt8} (h : l[k]? = some c) : (l.take (k + 1)).count 10 = (l.take k).count 10 + if c = 10 then 1 else 0 := by
  rw [List.take_add_one, h, List.count_append, Option.toList_some]
  congr 1
  by_cases hc : c = 10
  · rw [hc]; rfl
  · rw [if_neg hc, List.count_cons_of_ne (fun e => hc e)]; rfl
theorem byte10 (c : UInt8) : ((c.toNat : Int) == 10) = decide (c = 10) := by
  by_cases h : c = 10
  · rw [h]; rfl
  · rw [decide_eq_false h, beq_eq_false_iff_ne]
    intro e
    exact h (UInt8.toNat_inj.1 (by show c.toNat = 10; omega))
/-- The text of two runs. -/
def runT (a b : Ac) (n m : Nat) : Bs := lineT a (n + 1) ++ 10 :: (if m = 0 then [] else lineT b m ++ [10])
theorem runT_count {a b : Ac} {n m : Nat} (ha : actF a ≠ []) (hb : actF b ≠ []) : (runT a b n m).count 10 = if m = 0 then 1 else 2 := by
  unfold runT
  rw [List.count_append, lineT_count ha, List.count_cons_self]
  split
  · simp
  · rw [List.count_append, lineT_count hb]; rfl
theorem runT_len {a b : Ac} {n m : Nat} (ha : i64A a) (hb : i64A b) (hn : n ≤ 2000) (hm : m ≤ 2000) : (runT a b n m).length ≤ 200 := by
  have h1 := lineT_len (n := n + 1) ha (by omega)
  have h2 := lineT_len (n := m) hb (by omega)
  unfold runT
  split
  · simp only [List.length_append, List.length_cons, List.length_nil]; omega
  · simp only [List.length_append, List.length_cons, List.length_nil]; omega
theorem T3_line : lineF [116, 105, 99, 107, 32, 120, 49, 48, 48, 48, 48, 48] = some ((6, 0, 0), 100000) := by kernel_rfl
theorem T3_words (s : Bs) : wordsF 10 (T3 ++ s) = [116, 105, 99, 107, 32, 120, 49, 48, 48, 48, 48, 48] :: [35] :: wordsF 10 s := by
  rw [show T3 ++ s = [116, 105, 99, 107, 32, 120, 49, 48, 48, 48, 48, 48] ++ 10 :: ([35] ++ 10 :: s) from rfl, words_at (by decide), words_at (by decide)]
theorem T3_clean : cleanF [116, 105, 99, 107, 32, 120, 49, 48, 48, 48, 48, 48] = [116, 105, 99, 107, 32, 120, 49, 48, 48, 48, 48, 48] := by decide
theorem T3_clean2 : cleanF [35] = [] := by decide
theorem runT_bad {a b : Ac} {n m : Nat} (ha : actF a ≠ []) (hi : i64A a) (hn : n ≤ 2000) : parseF (T3 ++ runT a b n m) = ([], 3, false) := by
  obtain ⟨ws, hw⟩ : ∃ ws, wordsOf a = some ws := by
    cases e : wordsOf a with
    | none => exact absurd (actF_nil.2 e) ha
    | some ws => exact ⟨ws, rfl⟩
  obtain ⟨c1, c2⟩ := lineT_clean hw (n + 1)
  have hno : (10 : UInt8) ∉ lineT a (n + 1) := fun hm => (lineT_mem hw _ _ hm).1 rfl
  unfold parseF
  rw [T3_words, runT, words_at hno]
  rw [parseG, T3_clean, if_neg (by decide), T3_line]
  simp only
  rw [if_neg (by decide), parseG, T3_clean2, if_pos rfl, parseG, c1, if_neg c2, lineF_text hw hi.2.1 hi.2.2 (by omega) (by omega)]
  simp only
  rw [if_pos (by rw [List.nil_append, List.length_replicate]; omega)]
end Go.Proofs.YtfidiiifcmmffaaDoor
