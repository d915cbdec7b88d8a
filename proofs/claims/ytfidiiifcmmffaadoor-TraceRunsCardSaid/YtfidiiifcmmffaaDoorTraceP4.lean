/- Scripts as texts, read again: plain. No condition. -/
import Derived.Test.YtfidiiifcmmffaaDoorTraceP3
set_option linter.unusedVariables false
set_option linter.unusedSimpArgs false
namespace Go.Proofs.YtfidiiifcmmffaaDoor
open Go.Lib

def i64A (a : Ac) : Prop := i64 a.1 ∧ i64 a.2.1 ∧ i64 a.2.2
theorem actF_nil {a : Ac} : actF a = [] ↔ wordsOf a = none := by
  unfold actF
  cases h : wordsOf a with
  | none => simp
  | some ws =>
    obtain ⟨k, hk, e1, rfl, z2, z1⟩ := wordsOf_form h
    have := (name_plain hk).2
    simp only [reduceCtorEq, iff_false]
    rw [join_cons]
    intro e
    exact this (List.append_eq_nil_iff.1 e).1
/-- A script's lines: cut at '#', without blanks at the ends. -/
def cutH (l : Bs) : Bs := l.takeWhile fun c => decide (c ≠ 35)
def trimS (l : Bs) : Bs := ((l.reverse.dropWhile fun c => decide (c = 32)).reverse.dropWhile fun c => decide (c = 32))
def cleanF (l : Bs) : Bs := trimS (cutH l)
def parseG : List Bs → Nat → List Ac → List Ac × Nat × Bool
  | [], _, out => (out, 0, true)
  | l :: ls, i, out =>
    if cleanF l = [] then parseG ls (i + 1) out
    else match lineF (cleanF l) with
      | none => ([], i + 1, false)
      | some (a, n) => if 100000 < out.length + n then ([], i + 1, false) else parseG ls (i + 1) (out ++ List.replicate n a)
def parseF (s : Bs) : List Ac × Nat × Bool := parseG (wordsF 10 s) 0 []

def runN (a : Ac) (l : List Ac) : Nat := (l.takeWhile fun b => decide (b = a)).length
theorem run_take (a : Ac) : ∀ l : List Ac, l = List.replicate (runN a l) a ++ l.drop (runN a l)
  | [] => rfl
  | b :: l => by
    unfold runN
    by_cases h : b = a
    · rw [List.takeWhile_cons_of_pos (by simp [h])]
      show b :: l = List.replicate (runN a l + 1) a ++ l.drop (runN a l)
      rw [List.replicate_succ, List.cons_append, ← run_take a l, h]
    · rw [List.takeWhile_cons_of_neg (by simp [h])]
      rfl
theorem run_le (a : Ac) (l : List Ac) : runN a l ≤ l.length := (List.takeWhile_sublist _).length_le
def printG : Nat → List Ac → Option Bs
  | 0, _ => some []
  | _ + 1, [] => some []
  | f + 1, a :: l => if actF a = [] then none else match printG f (l.drop (runN a l)) with
    | none => none
    | some t => some (lineT a (runN a l + 1) ++ 10 :: t)
def printF (l : List Ac) : Option Bs := printG l.length l

theorem takeWhile_id {p : UInt8 → Bool} : ∀ {l : Bs}, (∀ c ∈ l, p c = true) → l.takeWhile p = l
  | [], _ => rfl
  | c :: l, h => by rw [List.takeWhile_cons_of_pos (h c (List.mem_cons_self ..)), takeWhile_id fun d hd => h d (List.mem_cons_of_mem _ hd)]
theorem trim_id {l : Bs} (h1 : l.head? ≠ some 32) (h2 : l.getLast? ≠ some 32) : trimS l = l := by
  have d : ∀ m : Bs, m.head? ≠ some 32 → m.dropWhile (fun c => decide (c = 32)) = m := by
    intro m hm
    cases m with
    | nil => rfl
    | cons c m =>
      have hc : c ≠ 32 := fun e => hm (by rw [e]; rfl)
      rw [List.dropWhile_cons_of_neg (by simp [hc])]
  unfold trimS
  rw [d l.reverse (by rw [List.head?_reverse]; exact h2), List.reverse_reverse, d l h1]
theorem join_last : ∀ (ws : List Bs) (w : Bs) (c : UInt8), w ≠ [] → ws ≠ [] → (∀ x ∈ ws, x ≠ []) → (join ws [c]).getLast? = (ws.getLastD []).getLast?
  | [], _, _, _, h, _ => absurd rfl h
  | [x], _, _, _, _, _ => by rw [join_one]; rfl
  | x :: y :: ys, w, c, hw, _, h => by
    have e : join (x :: y :: ys) [c] = x ++ c :: join (y :: ys) [c] := by
      rw [join_cons, join_cons]
      show x ++ (([c] ++ y) ++ joinTail [c] ys) = _
      simp
    have hj : join (y :: ys) [c] ≠ [] := by
      rw [join_cons]
      intro e
      exact h y (by simp) (List.append_eq_nil_iff.1 e).1
    rw [e, List.getLast?_append, List.getLast?_cons]
    have ih := join_last (y :: ys) w c hw (by simp) fun z hz => h z (List.mem_cons_of_mem _ hz)
    cases hl : (join (y :: ys) [c]).getLast? with
    | none => exact absurd (List.getLast?_eq_none_iff.1 hl) hj
    | some d =>
      rw [hl] at ih
      simp only [Option.getD_some, Option.some_or]
      rw [ih]
      rfl
theorem lineT_clean {a : Ac} {ws : List Bs} (h : wordsOf a = some ws) (n : Nat) : cleanF (lineT a n) = lineT a n ∧ lineT a n ≠ [] := by
  have hm := lineT_mem h n
  obtain ⟨x, xs, e⟩ := lineWords_cons h n
  have hp := lineWords_plain h n
  have hne : lineT a n ≠ [] := by
    rw [lineT_join h, e, join_cons]
    intro e2
    exact (hp x (by rw [e]; exact List.mem_cons_self ..)).1 (List.append_eq_nil_iff.1 e2).1
  refine ⟨?_, hne⟩
  unfold cleanF cutH
  rw [takeWhile_id fun c hc => by
    have := (hm c hc).2
    have e35 : (35 : UInt8).toNat = 35 := rfl
    simp only [decide_eq_true_eq, ne_eq]
    rintro rfl
    exact this e35]
  refine trim_id ?_ ?_
  · rw [lineT_join h, e, join_cons]
    obtain ⟨hx, hc⟩ := hp x (by rw [e]; exact List.mem_cons_self ..)
    cases x with
    | nil => exact absurd rfl hx
    | cons c x =>
      intro e2
      have e3 : c = 32 := by simpa using e2
      exact (hc c (List.mem_cons_self ..)).1 (by rw [e3]; rfl)
  · rw [lineT_join h, join_last _ [0] _ (by simp) (by rw [e]; simp) fun y hy => (hp y hy).1]
    intro e2
    have hl : (lineWords ws n).getLastD [] ∈ lineWords ws n := by
      rw [e, List.getLastD_cons]
      exact List.getLastD_mem_cons ..
    exact ((hp _ hl).2 _ (List.mem_of_getLast? e2)).1 rfl
/-- What was printed is read again. -/
theorem parse_print : ∀ (f : Nat) (l : List Ac) (t : Bs) (i : Nat) (out : List Ac), l.length ≤ f → printG f l = some t → (∀ a ∈ l, i64A a) → out.length + l.length ≤ 100000 → parseG (wordsF 10 t) i out = (out ++ l, 0, true)
  | 0, l, t, i, out, hf, hp, hi, hl => by
    have e : l = [] := List.eq_nil_of_length_eq_zero (by omega)
    subst e
    simp only [printG, Option.some.injEq] at hp
    subst hp
    rw [List.append_nil]
    rfl
  | f + 1, [], t, i, out, hf, hp, hi, hl => by
    simp only [printG, Option.some.injEq] at hp
    subst hp
    rw [List.append_nil]
    rfl
  | f + 1, a :: l, t, i, out, hf, hp, hi, hl => by
    simp only [printG] at hp
    split at hp
    · cases hp
    · rename_i hne
      cases hg : printG f (l.drop (runN a l)) with
      | none => rw [hg] at hp; cases hp
      | some t2 =>
        rw [hg] at hp
        simp only [Option.some.injEq] at hp
        subst hp
        obtain ⟨ws, hw⟩ : ∃ ws, wordsOf a = some ws := by
          cases h : wordsOf a with
          | none => exact absurd (actF_nil.2 h) hne
          | some ws => exact ⟨ws, rfl⟩
        have hrl := run_le a l
        simp only [List.length_cons] at hl hf
        obtain ⟨ia, i1, i2⟩ := hi a (List.mem_cons_self ..)
        have hn : (10 : UInt8) ∉ lineT a (runN a l + 1) := fun hm => (lineT_mem hw _ _ hm).1 rfl
        obtain ⟨c1, c2⟩ := lineT_clean hw (runN a l + 1)
        rw [words_at hn]
        simp only [parseG]
        rw [c1, if_neg c2, lineF_text hw i1 i2 (by omega) (by omega)]
        simp only
        rw [if_neg (by omega), parse_print f _ t2 _ _ (by rw [List.length_drop]; omega) hg (fun b hb => hi b (List.mem_cons_of_mem _ (List.mem_of_mem_drop hb))) (by rw [List.length_append, List.length_replicate, List.length_drop]; omega)]
        congr 1
        rw [List.append_assoc]
        congr 1
        rw [List.replicate_succ, List.cons_append, ← run_take a l]
end Go.Proofs.YtfidiiifcmmffaaDoor
