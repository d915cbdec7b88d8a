/- Instructions as texts, and read again: plain. No condition. -/
import Derived.Test.YtfidiiifcmmffaaGreatDoorAsmP1
import Derived.Test.YtfidiiifcmmffaaGreatDoorIsa2
set_option linter.unusedVariables false
set_option linter.unusedSimpArgs false
namespace Go.Proofs.YtfidiiifcmmffaaGreatDoor
open Go.Lib

def nameI (o : Int) : Bs := (rowAt o).1.data.toList
def regT (n : Int) : Bs := 114 :: itoa n
def plT (im rs : Int) : Bs := itoa im ++ 40 :: (regT rs ++ [41])
def partsI (i : In) : List Bs := match kd i.op with
  | .I | .J => [regT i.rd, itoa i.im]
  | .RI => [regT i.rd, regT i.rs, itoa i.im]
  | .R | .A => [regT i.rd, regT i.rs, regT i.rt]
  | .U => [regT i.rd, regT i.rs]
  | .B => [regT i.rs, regT i.rt, itoa i.im]
  | .L => [regT i.rd, plT i.im i.rs]
  | .S => [regT i.rt, plT i.im i.rs]
  | _ => []
/-- An instruction's text. -/
def textI (i : In) : Bs := if partsI i = [] then nameI i.op else nameI i.op ++ 32 :: join (partsI i) [44, 32]
def printI (i : In) : Bs := if rightB i = true then textI i else []

def regP : Bs → Option Int
  | 114 :: r => numF r
  | _ => none
/-- A place: imm(rs). -/
def plP (s : Bs) : Option (Int × Int) :=
  if ((s.dropWhile fun c => decide (c ≠ 40)).drop 1).getLast? = some 41 then
    match numF (s.takeWhile fun c => decide (c ≠ 40)), regP (((s.dropWhile fun c => decide (c ≠ 40)).drop 1).dropLast) with
    | some n, some r => some (n, r)
    | _, _ => none
  else none
def fillP (o : Int) (l : List Bs) : Option In := match kd o, l with
  | .N, [] => some ⟨o, 0, 0, 0, 0⟩
  | .I, [a, b] | .J, [a, b] => match regP a, numF b with | some x, some y => some ⟨o, x, 0, 0, y⟩ | _, _ => none
  | .RI, [a, b, c] => match regP a, regP b, numF c with | some x, some y, some z => some ⟨o, x, y, 0, z⟩ | _, _, _ => none
  | .R, [a, b, c] | .A, [a, b, c] => match regP a, regP b, regP c with | some x, some y, some z => some ⟨o, x, y, z, 0⟩ | _, _, _ => none
  | .U, [a, b] => match regP a, regP b with | some x, some y => some ⟨o, x, y, 0, 0⟩ | _, _ => none
  | .B, [a, b, c] => match regP a, regP b, numF c with | some x, some y, some z => some ⟨o, 0, x, y, z⟩ | _, _, _ => none
  | .L, [a, b] => match regP a, plP b with | some x, some (n, r) => some ⟨o, x, r, 0, n⟩ | _, _ => none
  | .S, [a, b] => match regP a, plP b with | some x, some (n, r) => some ⟨o, 0, r, x, n⟩ | _, _ => none
  | _, _ => none
def opOf (s : Bs) : Option Nat := (List.range 35).find? fun k => decide (nameI k = s)
def nameS (s : Bs) : Bs := s.takeWhile fun c => decide (c ≠ 32)
def restS (s : Bs) : List Bs := match s.dropWhile fun c => decide (c ≠ 32) with | [] => [] | _ :: r => sepF r
/-- The instruction that a text is. -/
def lineP (s : Bs) : Option In := match opOf (nameS s) with
  | none => none
  | some o => match fillP o (restS s) with
    | none => none
    | some i => if rightB i = true then some i else none

theorem regP_iff {s : Bs} {n : Int} : regP s = some n ↔ i64 n ∧ s = regT n := by
  constructor
  · intro h
    unfold regP at h
    split at h
    · obtain ⟨h1, h2⟩ := numF_iff.1 h
      exact ⟨h1, by rw [h2]; rfl⟩
    · cases h
  · rintro ⟨h1, rfl⟩
    exact numF_iff.2 ⟨h1, rfl⟩
theorem itoa_no {n : Int} {c : UInt8} (h : c.toNat ≠ 45) (h2 : c.toNat < 48 ∨ 57 < c.toNat) : c ∉ itoa n := fun hm => by have := itoa_mem hm; omega
theorem span_at {p : UInt8 → Bool} {a b : Bs} {c : UInt8} (ha : ∀ x ∈ a, p x = true) (hc : p c = false) : (a ++ c :: b).takeWhile p = a ∧ (a ++ c :: b).dropWhile p = c :: b := by
  induction a with
  | nil => exact ⟨by rw [List.nil_append, List.takeWhile_cons_of_neg (by simp [hc])], by rw [List.nil_append, List.dropWhile_cons_of_neg (by simp [hc])]⟩
  | cons x a ih =>
    obtain ⟨h1, h2⟩ := ih fun y hy => ha y (List.mem_cons_of_mem _ hy)
    have hx := ha x (List.mem_cons_self ..)
    exact ⟨by rw [List.cons_append, List.takeWhile_cons_of_pos hx, h1], by rw [List.cons_append, List.dropWhile_cons_of_pos hx, h2]⟩
theorem span_all {p : UInt8 → Bool} {a : Bs} (ha : ∀ x ∈ a, p x = true) : a.takeWhile p = a ∧ a.dropWhile p = [] := by
  induction a with
  | nil => exact ⟨rfl, rfl⟩
  | cons x a ih =>
    obtain ⟨h1, h2⟩ := ih fun y hy => ha y (List.mem_cons_of_mem _ hy)
    have hx := ha x (List.mem_cons_self ..)
    exact ⟨by rw [List.takeWhile_cons_of_pos hx, h1], by rw [List.dropWhile_cons_of_pos hx, h2]⟩
theorem span_eq (p : UInt8 → Bool) : ∀ s : Bs, s.takeWhile p ++ s.dropWhile p = s := fun s => List.takeWhile_append_dropWhile
theorem drop_head {p : UInt8 → Bool} : ∀ {s : Bs} {c : UInt8} {r : Bs}, s.dropWhile p = c :: r → p c = false
  | [], c, r, h => by cases h
  | x :: s, c, r, h => by
    by_cases hx : p x = true
    · rw [List.dropWhile_cons_of_pos hx] at h; exact drop_head h
    · rw [List.dropWhile_cons_of_neg hx] at h
      cases h
      simpa using hx
theorem ne_dec {c d : UInt8} : (decide (c ≠ d) = true) ↔ c ≠ d := by simp
theorem plP_iff {s : Bs} {n r : Int} : plP s = some (n, r) ↔ i64 n ∧ i64 r ∧ s = plT n r := by
  constructor
  · intro h
    unfold plP at h
    split at h
    · rename_i hl
      split at h
      · rename_i x y hx hy
        cases h
        obtain ⟨h1, h2⟩ := numF_iff.1 hx
        obtain ⟨h3, h4⟩ := regP_iff.1 hy
        refine ⟨h1, h3, ?_⟩
        cases hd : s.dropWhile fun c => decide (c ≠ 40) with
        | nil => rw [hd] at hl; cases hl
        | cons c t =>
          have hc := drop_head hd
          have hc : c = 40 := by simpa using hc
          rw [hd] at hl h4
          simp only [List.drop_succ_cons, List.drop_zero] at hl h4
          have ht : t = regT r ++ [41] := by
            rw [← h4]
            obtain ⟨ys, e⟩ := List.getLast?_eq_some_iff.1 hl
            rw [e, List.dropLast_concat]
          have := span_eq (fun c => decide (c ≠ 40)) s
          rw [hd, h2, hc, ht] at this
          exact this.symm
      · cases h
    · cases h
  · rintro ⟨h1, h2, rfl⟩
    obtain ⟨e1, e2⟩ := span_at (p := fun c => decide (c ≠ 40)) (a := itoa n) (b := regT r ++ [41]) (c := 40) (fun x hx => by
      rw [ne_dec]; rintro rfl; exact itoa_no (by decide) (by decide) hx) (by decide)
    unfold plP plT
    rw [e1, e2]
    simp only [List.drop_succ_cons, List.drop_zero]
    rw [List.getLast?_concat, if_pos rfl, List.dropLast_concat, numF_iff.2 ⟨h1, rfl⟩, regP_iff.2 ⟨h2, rfl⟩]
end Go.Proofs.YtfidiiifcmmffaaGreatDoor
