/- Numbers as they are written, and read again: plain. No condition. -/
import Derived.Lib.AtoiAll
import Derived.Lib.ItoaNum
set_option linter.unusedVariables false
set_option linter.unusedSimpArgs false
namespace Go.Proofs.YtfidiiifcmmffaaGreatDoor
open Go.Lib

abbrev Bs := List UInt8
theorem u8_of {k : Nat} (h : k < 256) : (UInt8.ofNat k).toNat = k := by
  rw [UInt8.toNat_ofNat']; omega
theorem dec_small {u : Nat} (h : u < 10) : decDigits u = [UInt8.ofNat (48 + u)] := by rw [decDigits, dif_pos h]
theorem dec_big {u : Nat} (h : ¬ u < 10) : decDigits u = decDigits (u / 10) ++ [UInt8.ofNat (48 + u % 10)] := by rw [decDigits, dif_neg h]
theorem dec_digits : ∀ (u : Nat) (c : UInt8), c ∈ decDigits u → 48 ≤ c.toNat ∧ c.toNat ≤ 57 := by
  intro u
  induction u using Nat.strongRecOn with
  | _ u ih =>
    intro c hc
    by_cases h : u < 10
    · rw [dec_small h] at hc
      rw [List.mem_singleton.1 hc, u8_of (by omega)]
      omega
    · rw [dec_big h] at hc
      rcases List.mem_append.1 hc with h1 | h1
      · exact ih (u / 10) (by omega) c h1
      · rw [List.mem_singleton.1 h1, u8_of (by omega)]
        omega
theorem dec_ne (u : Nat) : decDigits u ≠ [] := by
  by_cases h : u < 10
  · rw [dec_small h]; simp
  · rw [dec_big h]; simp
theorem dec_cons (u : Nat) : ∃ c r, decDigits u = c :: r ∧ 48 ≤ c.toNat ∧ c.toNat ≤ 57 := by
  have hn := dec_ne u
  have hd := dec_digits u
  cases e : decDigits u with
  | nil => exact absurd e hn
  | cons c r => exact ⟨c, r, rfl, hd c (by rw [e]; exact List.mem_cons_self ..)⟩

theorem parse_app : ∀ (l r : Bs) (acc v : Nat), parseUint10 acc l = .ok v → parseUint10 acc (l ++ r) = parseUint10 v r
  | [], r, acc, v, h => by
    simp only [parseUint10] at h
    injection h with h
    rw [h]; rfl
  | c :: l, r, acc, v, h => by
    rw [List.cons_append]
    simp only [parseUint10] at h ⊢
    split at h
    · rename_i h1
      rw [if_pos h1]
      split at h
      · cases h
      · rename_i h2
        rw [if_neg h2]
        split at h
        · cases h
        · rename_i h3
          rw [if_neg h3]
          exact parse_app l r _ v h
    · cases h
theorem parse_dec : ∀ u : Nat, u < 18446744073709551616 → parseUint10 0 (decDigits u) = .ok u := by
  intro u
  induction u using Nat.strongRecOn with
  | _ u ih =>
    intro hu
    by_cases h : u < 10
    · rw [dec_small h]
      simp only [parseUint10, u8_of (show 48 + u < 256 by omega)]
      rw [if_pos (by omega), if_neg (by omega), if_neg (by omega)]
      congr 1; omega
    · rw [dec_big h, parse_app _ _ _ _ (ih (u / 10) (by omega) (by omega))]
      simp only [parseUint10, u8_of (show 48 + u % 10 < 256 by omega)]
      rw [if_pos (by omega), if_neg (by omega), if_neg (by omega)]
      congr 1; omega
def i64 (n : Int) : Prop := -9223372036854775808 ≤ n ∧ n ≤ 9223372036854775807
theorem atoi_itoa {n : Int} (h : i64 n) : atoiAll (itoa n) = .ok n := by
  obtain ⟨h1, h2⟩ := h
  unfold itoa
  by_cases hn : n < 0
  · rw [if_pos hn]
    unfold atoiAll
    have hp : parseMag (decDigits n.natAbs) = .ok n.natAbs := by
      unfold parseMag
      rw [if_neg (dec_ne _)]
      exact parse_dec _ (by omega)
    simp only [show (45 : UInt8).toNat = 45 by rfl, or_true, if_true, hp, not_true_eq_false, false_and, if_false, true_and]
    rw [if_neg (by omega)]
    congr 1; omega
  · rw [if_neg hn]
    obtain ⟨c, r, e, hc1, hc2⟩ := dec_cons n.toNat
    have hp : parseMag (c :: r) = .ok n.toNat := by
      rw [← e]
      unfold parseMag
      rw [if_neg (dec_ne _)]
      exact parse_dec _ (by omega)
    rw [e]
    have k1 : ¬ (c.toNat = 43 ∨ c.toNat = 45) := by omega
    have k2 : ¬ c.toNat = 45 := by omega
    simp only [atoiAll]
    rw [if_neg k1, hp]
    simp only [k2, not_false_eq_true, true_and, false_and, if_false]
    rw [if_neg (by omega)]
    congr 1; omega
theorem atoi_in {s : Bs} {n : Int} (h : atoiAll s = .ok n) : i64 n := by
  unfold atoiAll at h
  cases s with
  | nil => cases h
  | cons c r =>
    simp only at h
    split at h
    · cases h
    · cases h
    · split at h
      · cases h
      · split at h
        · cases h
        · injection h with h
          unfold i64
          rw [← h]
          split <;> omega
theorem itoa_inj {n m : Int} (hn : i64 n) (hm : i64 m) (h : itoa n = itoa m) : n = m := by
  have := atoi_itoa hn
  rw [h, atoi_itoa hm] at this
  injection this with this
  exact this.symm
/-- The number that a text is; none: it isn't written so. -/
def numF (s : Bs) : Option Int := match atoiAll s with | .ok n => if itoa n = s then some n else none | _ => none
theorem numF_iff {s : Bs} {n : Int} : numF s = some n ↔ i64 n ∧ s = itoa n := by
  constructor
  · intro h
    unfold numF at h
    cases e : atoiAll s with
    | ok m =>
      rw [e] at h
      simp only at h
      split at h
      · rename_i h1
        injection h with h
        rw [← h]
        exact ⟨atoi_in e, h1.symm⟩
      · cases h
    | range => rw [e] at h; cases h
    | _ => rw [e] at h; cases h
  · rintro ⟨h, rfl⟩
    unfold numF
    rw [atoi_itoa h]
    simp only [if_true]

/-- The reference's reading of digits: below 0; none: too many, or no digit. -/
def negR (n : Int) : Bs → Option Int
  | [] => some n
  | c :: r => if (c.toNat : Int) - 48 < 0 ∨ 9 < (c.toNat : Int) - 48 ∨ n < Int.tdiv (-9223372036854775808 + ((c.toNat : Int) - 48)) 10 ∨ n < -922337203685477580 then none else negR (10 * n - ((c.toNat : Int) - 48)) r
theorem negR_app : ∀ (l r : Bs) (a v : Int), negR a l = some v → negR a (l ++ r) = negR v r
  | [], r, a, v, h => by
    simp only [negR, Option.some.injEq] at h
    rw [h]; rfl
  | c :: l, r, a, v, h => by
    rw [List.cons_append]
    simp only [negR] at h ⊢
    split at h
    · cases h
    · rename_i h1
      rw [if_neg h1]
      exact negR_app l r _ v h
theorem tdiv_low {d : Int} (h : d ≤ 9) (h0 : 0 ≤ d) : Int.tdiv (-9223372036854775808 + d) 10 = -((9223372036854775808 - d) / 10) := by
  have e : -9223372036854775808 + d = -(9223372036854775808 - d) := by omega
  rw [e, Int.neg_tdiv, Int.tdiv_eq_ediv_of_nonneg (by omega)]
theorem negR_dec : ∀ u : Nat, u ≤ 9223372036854775808 → negR 0 (decDigits u) = some (-(u : Int)) := by
  intro u
  induction u using Nat.strongRecOn with
  | _ u ih =>
    intro hu
    by_cases h : u < 10
    · rw [dec_small h]
      simp only [negR, u8_of (show 48 + u < 256 by omega)]
      rw [tdiv_low (by omega) (by omega), if_neg (by omega)]
      congr 1; omega
    · rw [dec_big h, negR_app _ _ _ _ (ih (u / 10) (by omega) (by omega))]
      simp only [negR, u8_of (show 48 + u % 10 < 256 by omega)]
      rw [tdiv_low (by omega) (by omega), if_neg (by omega)]
      congr 1; omega
theorem negR_in : ∀ (s : Bs) (n m : Int), -9223372036854775808 ≤ n → n ≤ 0 → negR n s = some m → -9223372036854775808 ≤ m ∧ m ≤ 0
  | [], n, m, h0, h1, h => by
    simp only [negR, Option.some.injEq] at h
    omega
  | c :: s, n, m, h0, h1, h => by
    simp only [negR] at h
    split at h
    · cases h
    · rename_i hc
      rw [tdiv_low (by omega) (by omega)] at hc
      exact negR_in s _ m (by omega) (by omega) h
/-- The reference's number of a text: and whether it is one. -/
def minusB (s : Bs) : Bool := decide (s.head? = some 45)
def numR (s : Bs) : Int × Bool :=
  match negR 0 (if minusB s = true then s.drop 1 else s) with
  | none => (0, false)
  | some m => if minusB s = true then (m, decide (s ≠ []) && decide (itoa m = s)) else if m = -9223372036854775808 then (0, false) else (-m, decide (s ≠ []) && decide (itoa (-m) = s))
theorem numR_some {s : Bs} {n : Int} (h : numR s = (n, true)) : numF s = some n := by
  unfold numR at h
  cases e : negR 0 (if minusB s = true then s.drop 1 else s) with
  | none => rw [e] at h; cases h
  | some m =>
    rw [e] at h
    have hm := negR_in _ 0 m (by omega) (by omega) e
    simp only at h
    split at h
    · injection h with h1 h2
      rw [Bool.and_eq_true, decide_eq_true_eq, decide_eq_true_eq] at h2
      rw [← h1, numF_iff]
      exact ⟨⟨by omega, by omega⟩, h2.2.symm⟩
    · split at h
      · cases h
      · injection h with h1 h2
        rw [Bool.and_eq_true, decide_eq_true_eq, decide_eq_true_eq] at h2
        rw [← h1, numF_iff]
        exact ⟨⟨by omega, by omega⟩, h2.2.symm⟩
theorem numR_of {s : Bs} {n : Int} (h : numF s = some n) : numR s = (n, true) := by
  obtain ⟨⟨h1, h2⟩, rfl⟩ := numF_iff.1 h
  unfold numR itoa
  by_cases hn : n < 0
  · rw [if_pos hn]
    have e1 : minusB (45 :: decDigits n.natAbs) = true := rfl
    rw [e1, if_pos rfl, List.drop_one, List.tail_cons, negR_dec _ (by omega)]
    simp only [if_true]
    rw [show -((n.natAbs : Nat) : Int) = n by omega, if_pos hn]
    simp
  · rw [if_neg hn]
    obtain ⟨c, r, e, hc1, hc2⟩ := dec_cons n.toNat
    have e1 : minusB (decDigits n.toNat) = false := by
      rw [e]
      unfold minusB
      simp only [List.head?_cons, decide_eq_false_iff_not, Option.some.injEq]
      rintro rfl
      have : (45 : UInt8).toNat = 45 := rfl
      omega
    rw [e1]
    simp only [Bool.false_eq_true, if_false]
    rw [negR_dec _ (by omega)]
    simp only
    rw [if_neg (by omega), show - -((n.toNat : Nat) : Int) = n by omega, if_neg hn]
    have := dec_ne n.toNat
    simp [this]
theorem numR_snd (s : Bs) : (numR s).2 = (numF s).isSome := by
  cases h : numF s with
  | some n => rw [numR_of h]; rfl
  | none =>
    cases e : (numR s).2 with
    | false => rfl
    | true =>
      have : numR s = ((numR s).1, true) := by rw [← e]
      rw [numR_some this] at h
      cases h

/-- The reference's digits: of a number, and something more. -/
def digR (n more : Nat) : Bs :=
  if h : n % 10 + more = 10 ∧ n ≠ 0 then digR (n / 10) 1 ++ [48]
  else if h2 : n / 10 = 0 then [UInt8.ofNat (48 + (n % 10 + more))]
  else digR (n / 10) 0 ++ [UInt8.ofNat (48 + (n % 10 + more))]
termination_by n
decreasing_by
  · omega
  · omega
theorem digR_eq : ∀ n more : Nat, more ≤ 1 → digR n more = decDigits (n + more) := by
  intro n
  induction n using Nat.strongRecOn with
  | _ n ih =>
    intro more hm
    rw [digR]
    by_cases h : n % 10 + more = 10 ∧ n ≠ 0
    · rw [dif_pos h, ih (n / 10) (by omega) 1 (by omega), dec_big (u := n + more) (by omega)]
      rw [show (n + more) / 10 = n / 10 + 1 by omega, show (n + more) % 10 = 0 by omega]
      rfl
    · rw [dif_neg h]
      by_cases h2 : n / 10 = 0
      · rw [dif_pos h2, dec_small (u := n + more) (by omega)]
        rw [show n % 10 + more = n + more by omega]
      · rw [dif_neg h2, ih (n / 10) (by omega) 0 (by omega), dec_big (u := n + more) (by omega)]
        rw [show (n + more) / 10 = n / 10 + 0 by omega, show (n + more) % 10 = n % 10 + more by omega]
theorem itoa_digR (n : Int) : itoa n = if n < 0 then 45 :: digR (-(n + 1)).toNat 1 else digR n.toNat 0 := by
  unfold itoa
  by_cases h : n < 0
  · rw [if_pos h, if_pos h, digR_eq _ _ (by omega)]
    congr 2; omega
  · rw [if_neg h, if_neg h, digR_eq _ _ (by omega)]
    congr 1
/-- What stands in a number: no blank, no line's end, no '#', no 'x'. -/
theorem itoa_mem {n : Int} {c : UInt8} (h : c ∈ itoa n) : c.toNat = 45 ∨ (48 ≤ c.toNat ∧ c.toNat ≤ 57) := by
  unfold itoa at h
  split at h
  · rcases List.mem_cons.1 h with h | h
    · left; rw [h]; rfl
    · exact .inr (dec_digits _ _ h)
  · exact .inr (dec_digits _ _ h)
theorem itoa_ne (n : Int) : itoa n ≠ [] := by
  unfold itoa
  split
  · simp
  · exact dec_ne _
end Go.Proofs.YtfidiiifcmmffaaGreatDoor
