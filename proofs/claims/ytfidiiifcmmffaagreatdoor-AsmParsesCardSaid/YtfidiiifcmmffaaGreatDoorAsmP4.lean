/- The reference's reading of an instruction: plain. No condition. -/
import Derived.Test.YtfidiiifcmmffaaGreatDoorAsmP3
set_option linter.unusedVariables false
set_option linter.unusedSimpArgs false
namespace Go.Proofs.YtfidiiifcmmffaaGreatDoor
open Go.Lib

def isDig (c : UInt8) : Bool := decide (48 ≤ c.toNat) && decide (c.toNat ≤ 57)
def digs : Nat → Bs → Bs
  | 0, _ => []
  | _ + 1, [] => []
  | f + 1, c :: r => if isDig c = true then c :: digs f r else []
def valD (l : Bs) : Nat := l.foldl (fun a c => 10 * a + (c.toNat - 48)) 0
/-- The number at the beginning of a text, and how many bytes; 0: none. -/
def stA (s : Bs) : Nat := if minusB s = true then 1 else 0
def dA (s : Bs) : Bs := digs 6 (s.drop (stA s))
def nA (s : Bs) : Int := if minusB s = true then -(valD (dA s) : Int) else valD (dA s)
def numA (s : Bs) : Int × Nat := if dA s = [] ∨ itoa (nA s) ≠ s.take (stA s + (dA s).length) then (0, 0) else (nA s, stA s + (dA s).length)
theorem digs_len : ∀ (f : Nat) (s : Bs), (digs f s).length ≤ f ∧ (digs f s).length ≤ s.length
  | 0, s => ⟨Nat.le_refl _, Nat.zero_le _⟩
  | f + 1, [] => ⟨Nat.zero_le _, Nat.le_refl _⟩
  | f + 1, c :: r => by
    unfold digs
    split
    · have := digs_len f r
      simp only [List.length_cons]; omega
    · simp
theorem digs_all : ∀ (f : Nat) (s : Bs), ∀ c ∈ digs f s, isDig c = true
  | 0, s, c, h => by cases h
  | f + 1, [], c, h => by cases h
  | f + 1, d :: r, c, h => by
    unfold digs at h
    split at h
    · rename_i hd
      rcases List.mem_cons.1 h with h | h
      · rw [h]; exact hd
      · exact digs_all f r c h
    · cases h
theorem digs_app : ∀ (f : Nat) (l r : Bs), l.length ≤ f → (∀ c ∈ l, isDig c = true) → (∀ c, r.head? = some c → isDig c = false) → digs f (l ++ r) = l
  | 0, [], r, _, _, _ => rfl
  | 0, c :: l, r, h, _, _ => by simp at h
  | f + 1, [], r, _, _, hr => by
    cases r with
    | nil => rfl
    | cons c r =>
      rw [List.nil_append, digs, if_neg (by rw [hr c rfl]; simp)]
  | f + 1, c :: l, r, h, hl, hr => by
    rw [List.cons_append, digs, if_pos (hl c (List.mem_cons_self ..)), digs_app f l r (by simpa using h) (fun d hd => hl d (List.mem_cons_of_mem _ hd)) hr]
theorem valD_app (l : Bs) (c : UInt8) : valD (l ++ [c]) = 10 * valD l + (c.toNat - 48) := by unfold valD; rw [List.foldl_append]; rfl
theorem valD_dec : ∀ u : Nat, valD (decDigits u) = u := by
  intro u
  induction u using Nat.strongRecOn with
  | _ u ih =>
    by_cases h : u < 10
    · rw [dec_small h]
      show 10 * 0 + ((UInt8.ofNat (48 + u)).toNat - 48) = u
      rw [u8_of (by omega)]; omega
    · rw [dec_big h, valD_app, ih (u / 10) (by omega), u8_of (by omega)]; omega
theorem valD_lt : ∀ l : Bs, (∀ c ∈ l, isDig c = true) → valD l < 10 ^ l.length := by
  intro l
  have key : ∀ (l : Bs) (a k : Nat), (∀ c ∈ l, isDig c = true) → a < 10 ^ k → l.foldl (fun a c => 10 * a + (c.toNat - 48)) a < 10 ^ (k + l.length) := by
    intro l
    induction l with
    | nil => intro a k _ h; exact h
    | cons c l ih =>
      intro a k hl h
      rw [List.foldl_cons, List.length_cons, show k + (l.length + 1) = (k + 1) + l.length by omega]
      refine ih _ (k + 1) (fun d hd => hl d (List.mem_cons_of_mem _ hd)) ?_
      have hc := hl c (List.mem_cons_self ..)
      unfold isDig at hc
      simp only [Bool.and_eq_true, decide_eq_true_eq] at hc
      rw [Nat.pow_succ]
      omega
  intro h
  have := key l 0 0 h (by simp)
  rw [Nat.zero_add] at this
  exact this
theorem numA_sound {s : Bs} {n : Int} {j : Nat} (h : numA s = (n, j)) (hj : 0 < j) : i64 n ∧ s = itoa n ++ s.drop j := by
  unfold numA at h
  by_cases hc : dA s = [] ∨ itoa (nA s) ≠ s.take (stA s + (dA s).length)
  · rw [if_pos hc] at h
    cases h; omega
  · rw [if_neg hc] at h
    have h1 := (not_or.1 hc).2
    rw [Decidable.not_not] at h1
    injection h with h2 h3
    have hv : valD (dA s) < 10 ^ 6 := Nat.lt_of_lt_of_le (valD_lt _ (digs_all _ _)) (Nat.pow_le_pow_right (by decide) (digs_len _ _).1)
    have e6 : (10 : Nat) ^ 6 = 1000000 := by decide
    refine ⟨?_, ?_⟩
    · rw [← h2]; unfold i64 nA; split <;> omega
    · rw [← h2, h1, ← h3, List.take_append_drop]
theorem dec_len6 : ∀ (k u : Nat), u < 10 ^ (k + 1) → (decDigits u).length ≤ k + 1
  | 0, u, h => by rw [dec_small (by simpa using h)]; simp
  | k + 1, u, h => by
    by_cases h1 : u < 10
    · rw [dec_small h1]; simp
    · rw [dec_big h1, List.length_append]
      have := dec_len6 k (u / 10) (by rw [Nat.pow_succ] at h; omega)
      simp only [List.length_cons, List.length_nil]; omega
theorem numA_full {n : Int} {r : Bs} (h1 : -99999 ≤ n) (h2 : n ≤ 99999) (hr : ∀ c, r.head? = some c → isDig c = false) : numA (itoa n ++ r) = (n, (itoa n).length) := by
  have dl : ∀ u : Nat, u ≤ 99999 → (decDigits u).length ≤ 6 := fun u hu => dec_len6 5 u (Nat.lt_of_le_of_lt hu (by decide))
  have da : ∀ u : Nat, ∀ c ∈ decDigits u, isDig c = true := fun u c hc => by
    have := dec_digits u c hc
    unfold isDig
    simp only [Bool.and_eq_true, decide_eq_true_eq]; exact this
  unfold numA
  by_cases hn : n < 0
  · have e : itoa n = 45 :: decDigits n.natAbs := by unfold itoa; rw [if_pos hn]
    have em : minusB (itoa n ++ r) = true := by rw [e]; rfl
    have ed : digs 6 ((itoa n ++ r).drop 1) = decDigits n.natAbs := by
      rw [e]
      show digs 6 (decDigits n.natAbs ++ r) = _
      exact digs_app 6 _ r (dl _ (by omega)) (da _) hr
    have es : stA (itoa n ++ r) = 1 := by unfold stA; rw [em]; rfl
    have eD : dA (itoa n ++ r) = decDigits n.natAbs := by unfold dA; rw [es, ed]
    have eN : nA (itoa n ++ r) = -((n.natAbs : Nat) : Int) := by unfold nA; rw [em, if_pos rfl, eD, valD_dec]
    rw [eD, eN, es, show -((n.natAbs : Nat) : Int) = n by omega]
    have el : 1 + (decDigits n.natAbs).length = (itoa n).length := by rw [e, List.length_cons]; omega
    rw [el, List.take_left, if_neg (not_or.2 ⟨dec_ne _, by simp⟩)]
  · have e : itoa n = decDigits n.toNat := by unfold itoa; rw [if_neg hn]
    obtain ⟨c, t, ec, hc1, hc2⟩ := dec_cons n.toNat
    have em : minusB (itoa n ++ r) = false := by
      rw [e, ec]
      unfold minusB
      simp only [List.cons_append, List.head?_cons, decide_eq_false_iff_not, Option.some.injEq]
      rintro rfl
      have : (45 : UInt8).toNat = 45 := rfl
      omega
    have ed : digs 6 ((itoa n ++ r).drop 0) = decDigits n.toNat := by
      rw [List.drop_zero, e]
      exact digs_app 6 _ r (dl _ (by omega)) (da _) hr
    have es : stA (itoa n ++ r) = 0 := by unfold stA; rw [em]; rfl
    have eD : dA (itoa n ++ r) = decDigits n.toNat := by unfold dA; rw [es, ed]
    have eN : nA (itoa n ++ r) = ((n.toNat : Nat) : Int) := by unfold nA; rw [em, if_neg (by simp), eD, valD_dec]
    rw [eD, eN, es, show ((n.toNat : Nat) : Int) = n by omega, Nat.zero_add, ← e, List.take_left, if_neg (not_or.2 ⟨by rw [e]; exact dec_ne _, by simp⟩)]

def sepA (k : Nat) : Bs := if k = 0 then [32] else [44, 32]
/-- One part of a kind's text. -/
def stepP (c : UInt8) (k : Nat) (i : In) (s : Bs) : Option (In × Bs) :=
  if (sepA k).isPrefixOf s = true then
    if c = 105 then
      if 0 < (numA (s.drop (sepA k).length)).2 then some ({ i with im := (numA (s.drop (sepA k).length)).1 }, (s.drop (sepA k).length).drop (numA (s.drop (sepA k).length)).2) else none
    else if c = 109 then
      if 0 < (numA (s.drop (sepA k).length)).2 ∧ ([40, 114] : Bs).isPrefixOf ((s.drop (sepA k).length).drop (numA (s.drop (sepA k).length)).2) = true then
        if 0 < (numA (((s.drop (sepA k).length).drop (numA (s.drop (sepA k).length)).2).drop 2)).2 ∧ ([41] : Bs).isPrefixOf ((((s.drop (sepA k).length).drop (numA (s.drop (sepA k).length)).2).drop 2).drop (numA (((s.drop (sepA k).length).drop (numA (s.drop (sepA k).length)).2).drop 2)).2) = true then
          some ({ i with im := (numA (s.drop (sepA k).length)).1, rs := (numA (((s.drop (sepA k).length).drop (numA (s.drop (sepA k).length)).2).drop 2)).1 },
            ((((s.drop (sepA k).length).drop (numA (s.drop (sepA k).length)).2).drop 2).drop (numA (((s.drop (sepA k).length).drop (numA (s.drop (sepA k).length)).2).drop 2)).2).drop 1)
        else none
      else none
    else if ([114] : Bs).isPrefixOf (s.drop (sepA k).length) = true ∧ 0 < (numA ((s.drop (sepA k).length).drop 1)).2 then
      some (if c = 100 then { i with rd := (numA ((s.drop (sepA k).length).drop 1)).1 } else if c = 116 then { i with rt := (numA ((s.drop (sepA k).length).drop 1)).1 } else { i with rs := (numA ((s.drop (sepA k).length).drop 1)).1 },
        ((s.drop (sepA k).length).drop 1).drop (numA ((s.drop (sepA k).length).drop 1)).2)
    else none
  else none
def shapeP : Bs → Nat → In → Bs → Option (In × Bs)
  | [], _, i, s => some (i, s)
  | c :: cs, k, i, s => match stepP c k i s with
    | none => none
    | some (j, r) => shapeP cs (k + 1) j r
def shapeK : Kd → Bs
  | .I | .J => [100, 105]
  | .RI => [100, 115, 105]
  | .R | .A => [100, 115, 116]
  | .U => [100, 115]
  | .B => [115, 116, 105]
  | .L => [100, 109]
  | .S => [116, 109]
  | _ => []
def rowR (o : Nat) (s : Bs) : Option In :=
  if (nameI o).isPrefixOf s = true then match shapeP (shapeK (kd o)) 0 ⟨o, 0, 0, 0, 0⟩ (s.drop (nameI o).length) with
    | none => none
    | some (i, r) => if r = [] ∧ rightB i = true then some i else none
  else none

theorem pre_drop {p s : Bs} (h : p.isPrefixOf s = true) : s = p ++ s.drop p.length := by
  obtain ⟨t, rfl⟩ := List.isPrefixOf_iff_prefix.1 h
  rw [List.drop_left]
theorem pre_of (p r : Bs) : p.isPrefixOf (p ++ r) = true := List.isPrefixOf_iff_prefix.2 ⟨r, rfl⟩
/-- What a part's text is. -/
def partT (c : UInt8) (i : In) : Bs := if c = 105 then itoa i.im else if c = 109 then plT i.im i.rs else if c = 100 then regT i.rd else if c = 116 then regT i.rt else regT i.rs
theorem step_i {k : Nat} {i j : In} {s r : Bs} (h : stepP 105 k i s = some (j, r)) : ∃ n, i64 n ∧ j = { i with im := n } ∧ s = sepA k ++ (itoa n ++ r) := by
  unfold stepP at h
  split at h
  · rename_i hp
    rw [if_pos rfl] at h
    split at h
    · rename_i hn
      cases h
      obtain ⟨h1, h2⟩ := numA_sound (s := s.drop (sepA k).length) (n := (numA (s.drop (sepA k).length)).1) (j := (numA (s.drop (sepA k).length)).2) rfl hn
      refine ⟨_, h1, rfl, ?_⟩
      rw [← h2]
      exact pre_drop hp
    · cases h
  · cases h
theorem step_reg {c : UInt8} (h1 : c ≠ 105) (h2 : c ≠ 109) {k : Nat} {i j : In} {s r : Bs} (h : stepP c k i s = some (j, r)) :
    ∃ n, i64 n ∧ j = (if c = 100 then { i with rd := n } else if c = 116 then { i with rt := n } else { i with rs := n }) ∧ s = sepA k ++ (regT n ++ r) := by
  unfold stepP at h
  by_cases hp : (sepA k).isPrefixOf s = true
  · rw [if_pos hp, if_neg h1, if_neg h2] at h
    by_cases hn : ([114] : Bs).isPrefixOf (s.drop (sepA k).length) = true ∧ 0 < (numA ((s.drop (sepA k).length).drop 1)).2
    · rw [if_pos hn] at h
      cases h
      obtain ⟨h3, h4⟩ := numA_sound (s := (s.drop (sepA k).length).drop 1) (n := (numA ((s.drop (sepA k).length).drop 1)).1) (j := (numA ((s.drop (sepA k).length).drop 1)).2) rfl hn.2
      refine ⟨_, h3, rfl, ?_⟩
      unfold regT
      rw [List.cons_append, ← h4]
      have := pre_drop hn.1
      rw [show (114 :: (s.drop (sepA k).length).drop 1 : Bs) = s.drop (sepA k).length from this.symm]
      exact pre_drop hp
    · rw [if_neg hn] at h; cases h
  · rw [if_neg hp] at h; cases h
theorem step_m {k : Nat} {i j : In} {s r : Bs} (h : stepP 109 k i s = some (j, r)) : ∃ n m, i64 n ∧ i64 m ∧ j = { i with im := n, rs := m } ∧ s = sepA k ++ (plT n m ++ r) := by
  unfold stepP at h
  split at h
  · rename_i hp
    rw [if_neg (by decide), if_pos rfl] at h
    split at h
    · rename_i hn
      split at h
      · rename_i hm
        cases h
        generalize hs1 : s.drop (sepA k).length = s1 at hn hm ⊢
        obtain ⟨h1, h2⟩ := numA_sound (s := s1) (n := (numA s1).1) (j := (numA s1).2) rfl hn.1
        generalize hs2 : s1.drop (numA s1).2 = s2 at hn hm h2 ⊢
        have h3 : s2 = [40, 114] ++ s2.drop 2 := pre_drop hn.2
        generalize hs3 : s2.drop 2 = s3 at hm h3 ⊢
        obtain ⟨h4, h5⟩ := numA_sound (s := s3) (n := (numA s3).1) (j := (numA s3).2) rfl hm.1
        generalize hs4 : s3.drop (numA s3).2 = s4 at hm h5 ⊢
        have h6 : s4 = [41] ++ s4.drop 1 := pre_drop hm.2
        refine ⟨_, _, h1, h4, rfl, ?_⟩
        unfold plT regT
        have e := pre_drop hp
        rw [hs1] at e
        rw [e]
        congr 1
        conv => lhs; rw [h2, h3, h5, h6]
        simp
      · cases h
    · cases h
  · cases h
end Go.Proofs.YtfidiiifcmmffaaGreatDoor
