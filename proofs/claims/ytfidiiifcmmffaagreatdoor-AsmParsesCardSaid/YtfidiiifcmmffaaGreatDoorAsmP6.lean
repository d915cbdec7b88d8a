/- Parse as plain functions: lines, labels, jumps. Plain lists, no program. No condition. -/
import Derived.Test.YtfidiiifcmmffaaGreatDoorAsm17
set_option linter.unusedVariables false
set_option linter.unusedSimpArgs false
namespace Go.Proofs.YtfidiiifcmmffaaGreatDoor
open Go.RowKit Go.RR
/-- A text cut at its last blank. -/
def lastSp : Bs → Option (Bs × Bs)
  | [] => none
  | c :: r => match lastSp r with
    | some (a, b) => some (c :: a, b)
    | none => if c = 32 then some ([], r) else none
theorem lastSp_none : ∀ {s : Bs}, lastSp s = none ↔ (32 : UInt8) ∉ s
  | [] => Iff.intro (fun _ h => (by cases h)) (fun _ => rfl)
  | c :: r => by
    have ih := lastSp_none (s := r)
    unfold lastSp
    cases hr : lastSp r with
    | some p =>
      refine Iff.intro (fun h => by cases h) (fun h => ?_)
      have : (32 : UInt8) ∉ r := fun hm => h (List.mem_cons_of_mem _ hm)
      rw [ih.2 this] at hr
      cases hr
    | none =>
      have h1 := ih.1 hr
      by_cases hc : c = 32
      · subst hc; simp
      · simp only [hc, if_false, true_iff]
        intro hm
        rcases List.mem_cons.1 hm with e | hm
        · exact hc e.symm
        · exact h1 hm
theorem lastSp_some : ∀ {s a b : Bs}, lastSp s = some (a, b) → s = a ++ 32 :: b ∧ (32 : UInt8) ∉ b
  | [], a, b, h => by cases h
  | c :: r, a, b, h => by
    unfold lastSp at h
    cases hr : lastSp r with
    | some p =>
      obtain ⟨x, y⟩ := p
      rw [hr] at h
      cases h
      obtain ⟨e, hn⟩ := lastSp_some hr
      exact ⟨by rw [e]; rfl, hn⟩
    | none =>
      rw [hr] at h
      by_cases hc : c = 32
      · rw [if_pos hc] at h
        cases h
        exact ⟨by rw [hc]; rfl, lastSp_none.1 hr⟩
      · rw [if_neg hc] at h; cases h
theorem lastSp_at : ∀ {a b : Bs}, (32 : UInt8) ∉ b → lastSp (a ++ 32 :: b) = some (a, b)
  | [], b, h => by
    show lastSp (32 :: b) = _
    unfold lastSp
    rw [lastSp_none.2 h]
    rfl
  | c :: a, b, h => by
    show lastSp (c :: (a ++ 32 :: b)) = _
    unfold lastSp
    rw [lastSp_at h]
theorem last_idx (s : Bs) : (Go.Lib.lastIndexByte ⟨s.toArray⟩ 32 = -1 ∧ lastSp s = none) ∨ ∃ a b, s = a ++ 32 :: b ∧ lastSp s = some (a, b) ∧ Go.Lib.lastIndexByte ⟨s.toArray⟩ 32 = a.length := by
  have hg : ∀ j, j < s.length → ((ByteArray.mk s.toArray).data[j]!).toNat = (s.getD j 0).toNat := fun j hj => by
    congr 1
    simp [hj]
  have key := Go.Lib.lastIdx_spec ⟨s.toArray⟩ 32 s.length
  have es : Go.Lib.lastIndexByte ⟨s.toArray⟩ 32 = Go.Lib.lastIdx ⟨s.toArray⟩ 32 s.length := rfl
  rw [es]
  rcases key with ⟨h1, h2⟩ | ⟨i, hi, h1, h2, h3⟩
  · refine .inl ⟨h1, lastSp_none.2 fun hm => ?_⟩
    obtain ⟨j, hj, e⟩ := List.mem_iff_getElem.1 hm
    apply h2 j hj
    rw [hg j hj, List.getD_eq_getElem?_getD, List.getElem?_eq_getElem hj, Option.getD_some, e]
    rfl
  · have hc : s[i] = 32 := by
      rw [hg i hi, List.getD_eq_getElem?_getD, List.getElem?_eq_getElem hi, Option.getD_some] at h2
      apply UInt8.toNat_inj.1
      have : ((s[i].toNat : Int)) = 32 := h2
      show s[i].toNat = 32
      omega
    have hs : s = s.take i ++ 32 :: s.drop (i + 1) := by
      rw [← hc]
      simp
    have hn : (32 : UInt8) ∉ s.drop (i + 1) := fun hm => by
      obtain ⟨j, hj, e⟩ := List.mem_iff_getElem.1 hm
      rw [List.length_drop] at hj
      rw [List.getElem_drop] at e
      refine h3 (i + 1 + j) (by omega) (by omega) ?_
      rw [hg _ (by omega), List.getD_eq_getElem?_getD, List.getElem?_eq_getElem (by omega), Option.getD_some, e]
      rfl
    have hl : (s.take i).length = i := by rw [List.length_take]; omega
    refine .inr ⟨s.take i, s.drop (i + 1), hs, ?_, by rw [h1, hl]⟩
    conv => lhs; rw [hs]
    exact lastSp_at hn
/-- A line that names a label. -/
def namedR (b : Bs) : Option In → Option (In × Bs)
  | some x => if kd x.op = .B ∨ kd x.op = .J then some (x, b) else none
  | none => none
def namedQ (a b : Bs) : Option (In × Bs) := if labB b = true then namedR b (lineP (a ++ [32, 48])) else none
def namedP (s : Bs) : Option (In × Bs) := match lastSp s with
  | none => none
  | some (a, b) => namedQ a b
structure PSt where
  l : List In
  ls : List (Bs × Nat)
  js : List (Nat × Nat × Bs)
def lookL (ls : List (Bs × Nat)) (k : Bs) : Option Nat := (ls.find? fun p => p.1 == k).map (·.2)
def stripF (s : Bs) : Bs := Go.Lib.trimB (s.takeWhile fun c => decide (c ≠ 35)) 32
def stepF (n : Nat) (st : PSt) (s0 : Bs) : Option PSt :=
  if stripF s0 = [] then some st
  else if (stripF s0).getLast? = some 58 then
    if (lookL st.ls (stripF s0).dropLast).isSome = true ∨ labB (stripF s0).dropLast = false then none else some ⟨st.l, st.ls ++ [((stripF s0).dropLast, st.l.length)], st.js⟩
  else match lineP (stripF s0) with
    | some i => some ⟨st.l ++ [i], st.ls, st.js⟩
    | none => match namedP (stripF s0) with
      | some (x, nm) => some ⟨st.l ++ [x], st.ls, st.js ++ [(n, st.l.length, nm)]⟩
      | none => none
def runF : Nat → PSt → List Bs → PSt ⊕ Nat
  | _, st, [] => .inl st
  | n, st, s :: r => match stepF (n + 1) st s with
    | some st' => runF (n + 1) st' r
    | none => .inr (n + 1)
def setIm (l : List In) (k : Nat) (im : Int) : List In := l.modify k fun i => { i with im := im }
def linkF (ls : List (Bs × Nat)) : List (Nat × Nat × Bs) → List In → List In ⊕ Nat
  | [], l => .inl l
  | (n, k, nm) :: r, l => match lookL ls nm with
    | none => .inr n
    | some q => if (q : Int) - k < -2048 ∨ 2048 ≤ (q : Int) - k then .inr n else linkF ls r (setIm l k (q - k))
def finF : List In ⊕ Nat → List In × Nat × Bool
  | .inr n => ([], n, false)
  | .inl l => if 16384 < l.length then ([], 0, false) else (l, 0, true)
def endF : PSt ⊕ Nat → List In × Nat × Bool
  | .inr n => ([], n, false)
  | .inl st => finF (linkF st.ls st.js st.l)
def parseF (s : Bs) : List In × Nat × Bool := endF (runF 0 ⟨[], [], []⟩ (wordsF 10 s))
end Go.Proofs.YtfidiiifcmmffaaGreatDoor
