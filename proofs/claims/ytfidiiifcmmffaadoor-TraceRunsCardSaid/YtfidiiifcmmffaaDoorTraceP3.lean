/- Acts as texts, lines, scripts: plain. No condition. -/
import Derived.Test.YtfidiiifcmmffaaDoorTraceP2
set_option linter.unusedVariables false
set_option linter.unusedSimpArgs false
namespace Go.Proofs.YtfidiiifcmmffaaDoor
open Go.Lib

/-- An act: kind, and two numbers. -/
abbrev Ac := Int × Int × Int
def namesF : List Bs := [[114, 117, 110], [100, 101, 108, 105, 118, 101, 114], [100, 114, 111, 112], [100, 111, 117, 98, 108, 101], [116, 117, 114, 110], [99, 117, 116], [116, 105, 99, 107]]
def cntsF : List Nat := [2, 1, 1, 1, 2, 2, 0]
def nameF (k : Nat) : Bs := namesF.getD k []
def cntF (k : Nat) : Nat := cntsF.getD k 0
/-- An act's words; none: it has no text. -/
def wordsOf (a : Ac) : Option (List Bs) :=
  if a.1 < 0 ∨ 6 < a.1 then none
  else if (cntF a.1.toNat < 2 ∧ a.2.2 ≠ 0) ∨ (cntF a.1.toNat < 1 ∧ a.2.1 ≠ 0) then none
  else some (nameF a.1.toNat :: [itoa a.2.1, itoa a.2.2].take (cntF a.1.toNat))
def actF (a : Ac) : Bs := match wordsOf a with | none => [] | some ws => join ws [32]
/-- Which kind's words these are. -/
def kindF (ws : List Bs) : Option Nat := (List.range 7).find? fun k => decide (nameF k = ws.getD 0 []) && decide (ws.length = 1 + cntF k)
def numsF : List Bs → Option (List Int)
  | [] => some []
  | w :: ws => match numF w with
    | none => none
    | some n => match numsF ws with
      | none => none
      | some l => some (n :: l)
def actW (ws : List Bs) : Option Ac := match kindF ws with
  | none => none
  | some k => match numsF (ws.drop 1) with
    | none => none
    | some l => some ((k : Int), l.getD 0 0, l.getD 1 0)
/-- How often, and the words ahead of it; none: it may not be. -/
def timesF (ws : List Bs) : Option (Nat × List Bs) :=
  if 2 ≤ ws.length ∧ (ws.getLastD []).head? = some 120 then
    match numF ((ws.getLastD []).drop 1) with
    | none => none
    | some n => if n < 2 ∨ 100000 < n then none else some (n.toNat, ws.dropLast)
  else some (1, ws)
def lineF (s : Bs) : Option (Ac × Nat) := match timesF (wordsF 32 s) with
  | none => none
  | some (n, ws) => match actW ws with
    | none => none
    | some a => some (a, n)

theorem join_snoc (x : Bs) (xs : List Bs) (y : Bs) (c : UInt8) : join (x :: xs ++ [y]) [c] = join (x :: xs) [c] ++ c :: y := by
  rw [List.cons_append, join_cons, join_cons]
  unfold joinTail
  simp
theorem nums_itoa {l : List Int} (h : ∀ n ∈ l, i64 n) : numsF (l.map itoa) = some l := by
  induction l with
  | nil => rfl
  | cons n l ih =>
    rw [List.map_cons, numsF, numF_iff.2 ⟨h n (List.mem_cons_self ..), rfl⟩, ih fun m hm => h m (List.mem_cons_of_mem _ hm)]
theorem wordsOf_form {a : Ac} {ws : List Bs} (h : wordsOf a = some ws) : ∃ k : Nat, k < 7 ∧ a.1 = k ∧ ws = nameF k :: ([a.2.1, a.2.2].take (cntF k)).map itoa ∧ (cntF k < 2 → a.2.2 = 0) ∧ (cntF k < 1 → a.2.1 = 0) := by
  unfold wordsOf at h
  split at h
  · cases h
  · split at h
    · cases h
    · rename_i hno
      injection h with h
      refine ⟨a.1.toNat, by omega, by omega, ?_, fun h1 => ?_, fun h1 => ?_⟩
      · rw [← h, List.map_take]
        rfl
      · by_cases h0 : a.2.2 = 0
        · exact h0
        · exact absurd (Or.inl ⟨h1, h0⟩) hno
      · by_cases h0 : a.2.1 = 0
        · exact h0
        · exact absurd (Or.inr ⟨h1, h0⟩) hno
theorem cnt_le {k : Nat} (h : k < 7) : cntF k ≤ 2 := by
  have : ∀ k < 7, cntF k ≤ 2 := by decide
  exact this k h
theorem name_plain {k : Nat} (h : k < 7) : (∀ c ∈ nameF k, 97 ≤ c.toNat ∧ c.toNat ≤ 122) ∧ nameF k ≠ [] := by
  have : ∀ k < 7, (∀ c ∈ nameF k, 97 ≤ c.toNat ∧ c.toNat ≤ 122) ∧ nameF k ≠ [] := by decide
  exact this k h
theorem kind_name {k : Nat} (h : k < 7) (ws : List Bs) (hw : ws.length = cntF k) : kindF (nameF k :: ws) = some k := by
  have hn : ∀ k < 7, ∀ j < 7, nameF j = nameF k → j = k := by decide
  have hl : (nameF k :: ws).length = 1 + cntF k := by rw [List.length_cons, hw]; omega
  unfold kindF
  rw [List.find?_eq_some_iff_append]
  refine ⟨by rw [Bool.and_eq_true, decide_eq_true_eq, decide_eq_true_eq]; exact ⟨rfl, hl⟩, List.range k, (List.range (6 - k)).map (· + (k + 1)), ?_, ?_⟩
  · have e : List.range 7 = List.range k ++ (List.range (7 - k)).map (k + ·) := by
      rw [← List.range_add]; congr 1; omega
    rw [e]
    congr 1
    obtain ⟨m, hm⟩ : ∃ m, 7 - k = m + 1 := ⟨6 - k, by omega⟩
    rw [hm, List.range_succ_eq_map, List.map_cons, List.map_map, show 6 - k = m by omega]
    congr 1
    exact List.map_congr_left fun x _ => by show k + (x + 1) = x + (k + 1); omega
  · intro j hj
    have hj := List.mem_range.1 hj
    have : nameF j ≠ nameF k := fun e => by have := hn k h j (by omega) e; omega
    simp [this]
theorem actW_words {a : Ac} {ws : List Bs} (h : wordsOf a = some ws) (h1 : i64 a.2.1) (h2 : i64 a.2.2) : actW ws = some a := by
  obtain ⟨k, hk, e1, rfl, z2, z1⟩ := wordsOf_form h
  have hc := cnt_le hk
  unfold actW
  rw [kind_name hk _ (by simp; omega)]
  simp only [List.drop_succ_cons, List.drop_zero]
  rw [nums_itoa (l := [a.2.1, a.2.2].take (cntF k)) (by
    intro n hn
    have := List.mem_of_mem_take hn
    rcases List.mem_cons.1 this with e | e
    · rw [e]; exact h1
    · rw [List.mem_singleton.1 e]; exact h2)]
  obtain ⟨x, y, z⟩ := a
  simp only at e1 z2 z1 ⊢
  subst e1
  match cntF k, hc, z2, z1 with
  | 0, _, z2, z1 => rw [z2 (by omega), z1 (by omega)]; rfl
  | 1, _, z2, z1 => rw [z2 (by omega)]; rfl
  | 2, _, z2, z1 => rfl
/-- What stands in the words: no blank, no line's end, no '#'. -/
def plainB (c : UInt8) : Prop := c.toNat ≠ 32 ∧ c.toNat ≠ 10 ∧ c.toNat ≠ 35
theorem wordsOf_plain {a : Ac} {ws : List Bs} (h : wordsOf a = some ws) : ∀ w ∈ ws, w ≠ [] ∧ ∀ c ∈ w, plainB c := by
  obtain ⟨k, hk, e1, rfl, z2, z1⟩ := wordsOf_form h
  obtain ⟨p1, p2⟩ := name_plain hk
  intro w hw
  rcases List.mem_cons.1 hw with e | hw
  · rw [e]
    exact ⟨p2, fun c hc => by have := p1 c hc; unfold plainB; omega⟩
  · obtain ⟨n, hn, rfl⟩ := List.mem_map.1 hw
    exact ⟨itoa_ne n, fun c hc => by have := itoa_mem hc; unfold plainB; omega⟩
def xW (n : Nat) : Bs := 120 :: itoa n
def lineWords (ws : List Bs) (n : Nat) : List Bs := if n = 1 then ws else ws ++ [xW n]
theorem timesF_words {a : Ac} {ws : List Bs} (h : wordsOf a = some ws) {n : Nat} (h1 : 1 ≤ n) (h2 : n ≤ 100000) : timesF (lineWords ws n) = some (n, ws) := by
  obtain ⟨k, hk, e1, rfl, z2, z1⟩ := wordsOf_form h
  have hc := cnt_le hk
  unfold timesF lineWords
  by_cases hn : n = 1
  · rw [if_pos hn, if_neg, hn]
    rintro ⟨hl, hx⟩
    have hd : ∀ m : Int, (itoa m).head? ≠ some 120 := by
      intro m e
      have := itoa_mem (List.mem_of_head? e)
      have e2 : (120 : UInt8).toNat = 120 := rfl
      omega
    match cntF k, hc, hl, hx with
    | 0, _, hl, _ => simp at hl
    | 1, _, _, hx => exact hd a.2.1 (by simpa using hx)
    | 2, _, _, hx => exact hd a.2.2 (by simpa using hx)
  · rw [if_neg hn]
    have el : (nameF k :: ([a.2.1, a.2.2].take (cntF k)).map itoa ++ [xW n]).getLastD [] = xW n := List.getLastD_concat ..
    rw [el, if_pos ⟨by simp, rfl⟩]
    have e2 : numF ((xW n).drop 1) = some (n : Int) := numF_iff.2 ⟨⟨by omega, by omega⟩, rfl⟩
    rw [e2]
    simp only
    rw [if_neg (by omega), List.dropLast_concat]
    rfl
theorem lineWords_plain {a : Ac} {ws : List Bs} (h : wordsOf a = some ws) (n : Nat) : ∀ w ∈ lineWords ws n, w ≠ [] ∧ ∀ c ∈ w, plainB c := by
  intro w hw
  unfold lineWords at hw
  split at hw
  · exact wordsOf_plain h w hw
  · rcases List.mem_append.1 hw with hw | hw
    · exact wordsOf_plain h w hw
    · rw [List.mem_singleton.1 hw]
      refine ⟨by simp [xW], fun c hc => ?_⟩
      rcases List.mem_cons.1 hc with e | hc
      · rw [e]; unfold plainB; decide
      · have := itoa_mem hc; unfold plainB; omega
theorem lineWords_cons {a : Ac} {ws : List Bs} (h : wordsOf a = some ws) (n : Nat) : ∃ x xs, lineWords ws n = x :: xs := by
  obtain ⟨k, hk, e1, rfl, z2, z1⟩ := wordsOf_form h
  unfold lineWords
  split
  · exact ⟨_, _, rfl⟩
  · exact ⟨_, _, rfl⟩
/-- The text of a line. -/
def lineT (a : Ac) (n : Nat) : Bs := if n = 1 then actF a else actF a ++ 32 :: xW n
theorem lineT_join {a : Ac} {ws : List Bs} (h : wordsOf a = some ws) (n : Nat) : lineT a n = join (lineWords ws n) [32] := by
  unfold lineT lineWords actF
  rw [h]
  split
  · rfl
  · obtain ⟨k, hk, e1, rfl, z2, z1⟩ := wordsOf_form h
    exact (join_snoc _ _ _ _).symm
theorem lineF_text {a : Ac} {ws : List Bs} (h : wordsOf a = some ws) (h1 : i64 a.2.1) (h2 : i64 a.2.2) {n : Nat} (n1 : 1 ≤ n) (n2 : n ≤ 100000) : lineF (lineT a n) = some (a, n) := by
  obtain ⟨x, xs, e⟩ := lineWords_cons h n
  unfold lineF
  rw [lineT_join h, e, words_of x xs (by
    intro y hy hc
    rw [← e] at hy
    exact ((lineWords_plain h n y hy).2 _ hc).1 rfl), ← e, timesF_words h n1 n2]
  simp only
  rw [actW_words h h1 h2]
theorem join_mem {c : UInt8} : ∀ (ws : List Bs) (d : UInt8), d ∈ join ws [c] → d = c ∨ ∃ w ∈ ws, d ∈ w
  | [], d, h => by simp [join] at h
  | [x], d, h => by rw [join_one] at h; exact .inr ⟨x, List.mem_cons_self .., h⟩
  | x :: y :: ys, d, h => by
    have e : join (x :: y :: ys) [c] = x ++ c :: join (y :: ys) [c] := by
      rw [join_cons, join_cons]
      show x ++ (([c] ++ y) ++ joinTail [c] ys) = _
      simp
    rw [e] at h
    rcases List.mem_append.1 h with h | h
    · exact .inr ⟨x, List.mem_cons_self .., h⟩
    · rcases List.mem_cons.1 h with h | h
      · exact .inl h
      · rcases join_mem (y :: ys) d h with h | ⟨w, hw, h⟩
        · exact .inl h
        · exact .inr ⟨w, List.mem_cons_of_mem _ hw, h⟩
/-- A line's text has no line's end and no '#'. -/
theorem lineT_mem {a : Ac} {ws : List Bs} (h : wordsOf a = some ws) (n : Nat) : ∀ c ∈ lineT a n, c.toNat ≠ 10 ∧ c.toNat ≠ 35 := by
  intro c hc
  rw [lineT_join h] at hc
  rcases join_mem _ _ hc with e | ⟨w, hw, hc⟩
  · rw [e]; decide
  · exact ((lineWords_plain h n w hw).2 c hc).2
end Go.Proofs.YtfidiiifcmmffaaDoor
