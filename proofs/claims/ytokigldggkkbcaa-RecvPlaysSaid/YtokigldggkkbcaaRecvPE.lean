/- Early bodies whose numbers are apart and lie in bounds: what follows, and how many there can be. No program in sight. -/
import Derived.Test.YtokigldggkkbcaaRecvPlain
import Derived.Test.YtokigldggkkbcaaRecvNow
set_option linter.unusedVariables false
namespace Go.Proofs.Ytokigldggkkbcaa
open Go.RowKit Go.RR

def PE (lo hi : Int) : Early → Prop
  | [] => True
  | p :: e => (lo ≤ p.1 ∧ p.1 ≤ hi) ∧ efind e p.1 = none ∧ PE lo hi e

theorem PE.kd {lo hi : Int} : ∀ {e : Early}, PE lo hi e → KD e
  | [], _ => trivial
  | p :: e, h => ⟨h.2.1, h.2.2.kd⟩
theorem PE.mem {lo hi : Int} : ∀ {e : Early}, PE lo hi e → ∀ p ∈ e, lo ≤ p.1 ∧ p.1 ≤ hi
  | [], _, p, h => by simp at h
  | q :: e, h, p, hp => by
    rcases List.mem_cons.1 hp with rfl | hp
    · exact h.1
    · exact h.2.2.mem p hp
theorem PE.drop {lo hi a : Int} : ∀ {e : Early}, PE lo hi e → PE lo hi (edrop e a) ∧ efind (edrop e a) a = none
  | [], _ => ⟨trivial, rfl⟩
  | p :: e, h => by
    by_cases ha : p.1 = a
    · subst ha
      simp only [edrop, if_true]
      exact ⟨h.2.2, h.2.1⟩
    · obtain ⟨h1, h2⟩ := PE.drop (a := a) h.2.2
      simp only [edrop, if_neg ha]
      exact ⟨⟨h.1, efind_drop h.2.1, h1⟩, by simp [efind, ha, h2]⟩
theorem PE.up {lo hi : Int} : ∀ {e : Early}, PE lo hi e → efind e lo = none → PE (lo + 1) hi e
  | [], _, _ => trivial
  | p :: e, h, hn => by
    by_cases hp : p.1 = lo
    · simp [efind, hp] at hn
    · simp only [efind, if_neg hp] at hn
      have := h.1.1
      exact ⟨⟨by omega, h.1.2⟩, h.2.1, h.2.2.up hn⟩
theorem PE.wide {lo hi lo' hi' : Int} (h1 : lo' ≤ lo) (h2 : hi ≤ hi') : ∀ {e : Early}, PE lo hi e → PE lo' hi' e
  | [], _ => trivial
  | p :: e, h => ⟨⟨by have := h.1.1; omega, by have := h.1.2; omega⟩, h.2.1, h.2.2.wide h1 h2⟩
theorem PE.put {lo hi a : Int} {s : ByteArray} (b1 : lo ≤ a) (b2 : a ≤ hi) : ∀ {e : Early}, PE lo hi e → efind e a = none → PE lo hi (e ++ [(a, s)])
  | [], _, _ => ⟨⟨b1, b2⟩, rfl, trivial⟩
  | p :: e, h, hn => by
    by_cases hp : p.1 = a
    · simp [efind, hp] at hn
    · simp only [efind, if_neg hp] at hn
      exact ⟨h.1, efind_snoc h.2.1 hp, h.2.2.put b1 b2 hn⟩
theorem PE.count : ∀ (n : Nat) (lo hi : Int) (e : Early), hi - lo + 1 ≤ n → PE lo hi e → e.length ≤ n
  | 0, lo, hi, [], _, _ => Nat.le_refl _
  | 0, lo, hi, p :: e, hn, h => by have := h.1.1; have := h.1.2; omega
  | n + 1, lo, hi, e, hn, h => by
    cases hf : efind e lo with
    | none => exact Nat.le_succ_of_le (PE.count n (lo + 1) hi e (by omega) (h.up hf))
    | some s =>
      obtain ⟨h1, h2⟩ := h.drop (a := lo)
      have := PE.count n (lo + 1) hi (edrop e lo) (by omega) (h1.up h2)
      have := edrop_len hf
      omega
theorem PE.none {lo hi a : Int} (ha : a < lo) : ∀ {e : Early}, PE lo hi e → efind e a = none
  | [], _ => rfl
  | p :: e, h => by
    have := h.1.1
    simp only [efind, if_neg (show ¬ p.1 = a by omega)]
    exact h.2.2.none ha

theorem follow_PE : ∀ (f : Nat) (n hi : Int) (e : Early), e.length ≤ f → PE n hi e → PE ((follow f n e).2.1 + 1) hi (follow f n e).2.2 ∧ (follow f n e).2.1 = n + (follow f n e).1.length ∧ (follow f n e).1.length + (follow f n e).2.2.length = e.length
  | 0, n, hi, e, hl, h => by
    obtain rfl : e = [] := List.eq_nil_of_length_eq_zero (by omega)
    exact ⟨trivial, by simp [follow], by simp [follow]⟩
  | f + 1, n, hi, e, hl, h => by
    cases hf : efind e n with
    | none => simp only [follow, hf]; exact ⟨h.up hf, by simp, by simp⟩
    | some s =>
      obtain ⟨h1, h2⟩ := h.drop (a := n)
      have hlen := edrop_len hf
      obtain ⟨h3, h4, h5⟩ := follow_PE f (n + 1) hi (edrop e n) (by omega) (h1.up h2)
      have e3 : follow (f + 1) n e = (s :: (follow f (n + 1) (edrop e n)).1, (follow f (n + 1) (edrop e n)).2) := by simp [follow, hf]
      rw [e3]
      refine ⟨h3, ?_, ?_⟩
      · simp only [List.length_cons]; omega
      · simp only [List.length_cons]; omega

theorem efind_self {a : Int} {s : ByteArray} : ∀ {e : Early}, efind e a = none → efind (e ++ [(a, s)]) a = some s ∧ edrop (e ++ [(a, s)]) a = e
  | [], _ => by simp [efind, edrop]
  | p :: e, h => by
    by_cases hp : p.1 = a
    · simp [efind, hp] at h
    · simp only [efind, if_neg hp] at h
      obtain ⟨h1, h2⟩ := efind_self (s := s) h
      simp only [List.cons_append, efind, edrop, if_neg hp]
      exact ⟨h1, by rw [h2]⟩
theorem follow_late {n a : Int} {s : ByteArray} {e : Early} (h : efind e n = none) (hna : n ≠ a) (f : Nat) : follow f n (e ++ [(a, s)]) = ([], n, e ++ [(a, s)]) := follow_none (efind_snoc h hna) f
theorem follow_now {n : Int} {s : ByteArray} {e : Early} (h : efind e n = none) : follow (e.length + 1) n (e ++ [(n, s)]) = (s :: (follow e.length (n + 1) e).1, (follow e.length (n + 1) e).2) := by
  obtain ⟨h1, h2⟩ := efind_self (s := s) h
  have := follow_some h1
  rw [h2] at this
  simpa using this
end Go.Proofs.Ytokigldggkkbcaa
