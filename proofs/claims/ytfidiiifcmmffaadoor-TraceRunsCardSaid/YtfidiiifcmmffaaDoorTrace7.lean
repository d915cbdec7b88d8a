/- An act of words, by the program. No condition. -/
import Derived.Test.YtfidiiifcmmffaaDoorTrace6
import Derived.Test.YtfidiiifcmmffaaDoorKit2
set_option linter.unusedVariables false
set_option linter.unusedSimpArgs false
namespace Go.Proofs.YtfidiiifcmmffaaDoor
open Go.RowKit Go.RR

theorem run_shape (k : Nat) (hk : k < 7) (w : World) : Sem.run Tryd.prog (Instr.index 56 (.agg shapesL.toArray) (.int .i64 k)) w = .ok (.agg #[.string ⟨(nameF k).toArray⟩, .int .i64 (cntF k)]) w := by
  unfold Instr.index
  match k, hk with
  | 0, _ => simp [go_sem, asIntOf, run_underlying Tryd.underlying56, part, shapesL, bsv]; rfl
  | 1, _ => simp [go_sem, asIntOf, run_underlying Tryd.underlying56, part, shapesL, bsv]; rfl
  | 2, _ => simp [go_sem, asIntOf, run_underlying Tryd.underlying56, part, shapesL, bsv]; rfl
  | 3, _ => simp [go_sem, asIntOf, run_underlying Tryd.underlying56, part, shapesL, bsv]; rfl
  | 4, _ => simp [go_sem, asIntOf, run_underlying Tryd.underlying56, part, shapesL, bsv]; rfl
  | 5, _ => simp [go_sem, asIntOf, run_underlying Tryd.underlying56, part, shapesL, bsv]; rfl
  | 6, _ => simp [go_sem, asIntOf, run_underlying Tryd.underlying56, part, shapesL, bsv]; rfl
theorem kindF_some {x : Bs} {ws : List Bs} {k : Nat} (hk : k < 7) (h : nameF k = x ∧ ws.length = cntF k) (hno : ∀ j < k, ¬ (nameF j = x ∧ ws.length = cntF j)) : kindF (x :: ws) = some k := by
  unfold kindF
  rw [List.find?_eq_some_iff_append]
  have e1 : ∀ j, ((x :: ws).length = 1 + cntF j) ↔ ws.length = cntF j := fun j => by rw [List.length_cons]; omega
  refine ⟨by rw [Bool.and_eq_true, decide_eq_true_eq, decide_eq_true_eq, e1]; exact h, List.range k, (List.range (6 - k)).map (· + (k + 1)), ?_, ?_⟩
  · have e : List.range 7 = List.range k ++ (List.range (7 - k)).map (k + ·) := by
      rw [← List.range_add]; congr 1; omega
    rw [e]
    congr 1
    obtain ⟨m, hm⟩ : ∃ m, 7 - k = m + 1 := ⟨6 - k, by omega⟩
    rw [hm, List.range_succ_eq_map, List.map_cons, List.map_map, show 6 - k = m by omega]
    congr 1
    exact List.map_congr_left fun x _ => by show k + (x + 1) = x + (k + 1); omega
  · intro j hj
    have hj := List.mem_range.1 hj
    have := hno j hj
    simp only [List.getD_cons_zero, Bool.not_eq_true', Bool.and_eq_false_iff, decide_eq_false_iff_not, e1]
    by_cases h1 : nameF j = x
    · exact .inr fun h2 => this ⟨h1, h2⟩
    · exact .inl h1
theorem kindF_none {x : Bs} {ws : List Bs} (hno : ∀ j < 7, ¬ (nameF j = x ∧ ws.length = cntF j)) : kindF (x :: ws) = none := by
  unfold kindF
  rw [List.find?_eq_none]
  intro j hj
  have e1 : ((x :: ws).length = 1 + cntF j) ↔ ws.length = cntF j := by rw [List.length_cons]; omega
  rw [Bool.and_eq_true, decide_eq_true_eq, decide_eq_true_eq, e1]
  exact hno j (List.mem_range.1 hj)
theorem nums_len : ∀ {ws : List Bs} {l : List Int}, numsF ws = some l → l.length = ws.length
  | [], l, h => by simp only [numsF, Option.some.injEq] at h; rw [← h]; rfl
  | w :: ws, l, h => by
    unfold numsF at h
    split at h
    · cases h
    · split at h
      · cases h
      · rename_i h2
        injection h with h
        rw [← h, List.length_cons, List.length_cons, nums_len h2]
theorem nums_app : ∀ {ws vs : List Bs} {l m : List Int}, numsF ws = some l → numsF vs = some m → numsF (ws ++ vs) = some (l ++ m)
  | [], vs, l, m, h, h2 => by simp only [numsF, Option.some.injEq] at h; rw [← h]; exact h2
  | w :: ws, vs, l, m, h, h2 => by
    rw [List.cons_append]
    unfold numsF at h ⊢
    split at h
    · cases h
    · split at h
      · cases h
      · rename_i h3
        injection h with h
        rw [nums_app h3 h2, ← h]
        rfl
theorem nums_bad : ∀ {ws : List Bs} {y : Bs}, y ∈ ws → numF y = none → numsF ws = none
  | [], y, h, _ => by cases h
  | w :: ws, y, h, hy => by
    unfold numsF
    split
    · rfl
    · rename_i n hn
      rcases List.mem_cons.1 h with h | h
      · rw [← h, hy] at hn; cases hn
      · rw [nums_bad h hy]
theorem nums_take {ws : List Bs} {i : Nat} {y : Bs} {n : Int} {l : List Int} (h : numsF (ws.take i) = some l) (hy : ws[i]? = some y) (hn : numF y = some n) : numsF (ws.take (i + 1)) = some (l ++ [n]) := by
  rw [List.take_add_one, hy]
  exact nums_app h (by show numsF [y] = some [n]; rw [numsF, hn]; rfl)
def zact : Array Value := #[.int .i64 0, .int .i64 0, .int .i64 0]
def actOf : Option Ac → Value
  | none => .tuple #[.agg zact, .bool false]
  | some (k, a, b) => .tuple #[.agg #[.int .i64 k, .int .i64 a, .int .i64 b], .bool true]
def actV (ws : List Bs) : Value := actOf (actW ws)
theorem actW_none {ws : List Bs} (h : kindF ws = none) : actV ws = .tuple #[.agg zact, .bool false] := by unfold actV actW; rw [h]; rfl
theorem actW_bad {ws : List Bs} {y : Bs} (hy : y ∈ ws.drop 1) (hn : numF y = none) : actV ws = .tuple #[.agg zact, .bool false] := by
  unfold actV actW
  cases kindF ws with
  | none => rfl
  | some k => rw [show numsF (ws.drop 1) = none from nums_bad hy hn]; rfl
theorem actW_some {x : Bs} {ws : List Bs} {k : Nat} {l : List Int} (h : kindF (x :: ws) = some k) (hn : numsF ws = some l) : actV (x :: ws) = .tuple #[.agg #[.int .i64 k, .int .i64 (l.getD 0 0), .int .i64 (l.getD 1 0)], .bool true] := by
  unfold actV actW
  rw [h]
  simp only [List.drop_succ_cons, List.drop_zero, hn]
  rfl
theorem two_set (l : List Int) (n : Int) (h : l.length < 2) : (#[Value.int .i64 (l.getD 0 0), Value.int .i64 (l.getD 1 0)]).setIfInBounds l.length (.int .i64 n) = #[Value.int .i64 ((l ++ [n]).getD 0 0), Value.int .i64 ((l ++ [n]).getD 1 0)] := by
  match l, h with
  | [], _ => rfl
  | [a], _ => rfl
theorem zset : (((zact.setIfInBounds 0 (.int .i64 0)).setIfInBounds 1 (.int .i64 0)).setIfInBounds 2 (.int .i64 0)) = zact := rfl
theorem name_eq (k : Nat) (x : Bs) : (nameF k == x) = decide (nameF k = x) := by
  by_cases h : nameF k = x
  · rw [h]; simp
  · rw [decide_eq_false h, beq_eq_false_iff_ne]; exact h
end Go.Proofs.YtfidiiifcmmffaaDoor
