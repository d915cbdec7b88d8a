/- Early bodies whose numbers are apart and whose bytes are their numbers: what follows, and how many there can be. No program in sight. -/
import Derived.Test.YtokigldggkkbcaaRecvLaw
set_option linter.unusedVariables false
namespace Go.Proofs.Ytokigldggkkbcaa
open Go.RowKit Go.RR

def nb (a : Int) : ByteArray := sb [UInt8.ofNat a.toNat]

def VE (lo hi : Int) : Early → Prop
  | [] => True
  | p :: e => (lo ≤ p.1 ∧ p.1 ≤ hi ∧ 1 ≤ p.1 ∧ p.1 ≤ 30 ∧ p.2 = nb p.1) ∧ efind e p.1 = none ∧ VE lo hi e

theorem VE.find {lo hi a : Int} {s : ByteArray} : ∀ {e : Early}, VE lo hi e → efind e a = some s → lo ≤ a ∧ a ≤ hi ∧ 1 ≤ a ∧ a ≤ 30 ∧ s = nb a
  | [], _, h => by simp [efind] at h
  | p :: e, hv, h => by
    by_cases hp : p.1 = a
    · simp only [efind, if_pos hp, Option.some.injEq] at h
      subst hp
      exact ⟨hv.1.1, hv.1.2.1, hv.1.2.2.1, hv.1.2.2.2.1, h ▸ hv.1.2.2.2.2⟩
    · simp only [efind, if_neg hp] at h
      exact hv.2.2.find h
theorem efind_drop {b a : Int} : ∀ {e : Early}, efind e b = none → efind (edrop e a) b = none
  | [], _ => rfl
  | p :: e, h => by
    by_cases hp : p.1 = b
    · simp [efind, hp] at h
    · simp only [efind, if_neg hp] at h
      by_cases ha : p.1 = a
      · simpa [edrop, ha] using h
      · simp [edrop, ha, efind, hp, efind_drop h]
theorem VE.drop {lo hi a : Int} : ∀ {e : Early}, VE lo hi e → VE lo hi (edrop e a) ∧ efind (edrop e a) a = none
  | [], _ => ⟨trivial, rfl⟩
  | p :: e, h => by
    by_cases ha : p.1 = a
    · subst ha
      simp only [edrop, if_true]
      exact ⟨h.2.2, h.2.1⟩
    · obtain ⟨h1, h2⟩ := VE.drop (a := a) h.2.2
      simp only [edrop, if_neg ha]
      exact ⟨⟨h.1, efind_drop h.2.1, h1⟩, by simp [efind, ha, h2]⟩
theorem VE.up {lo hi : Int} : ∀ {e : Early}, VE lo hi e → efind e lo = none → VE (lo + 1) hi e
  | [], _, _ => trivial
  | p :: e, h, hn => by
    by_cases hp : p.1 = lo
    · simp [efind, hp] at hn
    · simp only [efind, if_neg hp] at hn
      have := h.1.1
      exact ⟨⟨by omega, h.1.2⟩, h.2.1, h.2.2.up hn⟩
theorem VE.wide {lo hi lo' hi' : Int} (h1 : lo' ≤ lo) (h2 : hi ≤ hi') : ∀ {e : Early}, VE lo hi e → VE lo' hi' e
  | [], _ => trivial
  | p :: e, h => ⟨⟨by have := h.1.1; omega, by have := h.1.2.1; omega, h.1.2.2⟩, h.2.1, h.2.2.wide h1 h2⟩
theorem efind_snoc {a b : Int} {s : ByteArray} : ∀ {e : Early}, efind e a = none → a ≠ b → efind (e ++ [(b, s)]) a = none
  | [], _, h => by simp [efind, Ne.symm h]
  | p :: e, h, hab => by
    by_cases hp : p.1 = a
    · simp [efind, hp] at h
    · simp only [efind, if_neg hp] at h
      simp only [List.cons_append, efind, if_neg hp]
      exact efind_snoc h hab
theorem VE.put {lo hi a : Int} (b1 : lo ≤ a) (b2 : a ≤ hi) (b3 : 1 ≤ a) (b4 : a ≤ 30) : ∀ {e : Early}, VE lo hi e → efind e a = none → VE lo hi (e ++ [(a, nb a)])
  | [], _, _ => ⟨⟨b1, b2, b3, b4, rfl⟩, rfl, trivial⟩
  | p :: e, h, hn => by
    by_cases hp : p.1 = a
    · simp [efind, hp] at hn
    · simp only [efind, if_neg hp] at hn
      exact ⟨h.1, efind_snoc h.2.1 hp, h.2.2.put b1 b2 b3 b4 hn⟩
theorem VE.count : ∀ (n : Nat) (lo hi : Int) (e : Early), hi - lo + 1 ≤ n → VE lo hi e → e.length ≤ n
  | 0, lo, hi, [], _, _ => Nat.le_refl _
  | 0, lo, hi, p :: e, hn, h => by have := h.1.1; have := h.1.2.1; omega
  | n + 1, lo, hi, e, hn, h => by
    cases hf : efind e lo with
    | none => exact Nat.le_succ_of_le (VE.count n (lo + 1) hi e (by omega) (h.up hf))
    | some s =>
      obtain ⟨h1, h2⟩ := h.drop (a := lo)
      have := VE.count n (lo + 1) hi (edrop e lo) (by omega) (h1.up h2)
      have := edrop_len hf
      omega

theorem follow_VE : ∀ (f : Nat) (n hi : Int) (e : Early), e.length ≤ f → VE n hi e → ∃ j : Nat, follow f n e = ((List.range j).map (fun i : Nat => nb (n + (i : Int))), n + j, (follow f n e).2.2) ∧ VE (n + j + 1) hi (follow f n e).2.2 ∧ (n ≤ 31 → n + j ≤ 31)
  | 0, n, hi, e, hl, h => by
    obtain rfl : e = [] := List.eq_nil_of_length_eq_zero (by omega)
    exact ⟨0, by simp [follow], trivial, by omega⟩
  | f + 1, n, hi, e, hl, h => by
    cases hf : efind e n with
    | none => exact ⟨0, by simp [follow, hf], by simp only [follow, hf]; simpa using h.up hf, by omega⟩
    | some s =>
      obtain ⟨h1, h2⟩ := h.drop (a := n)
      have hlen := edrop_len hf
      obtain ⟨j, h3, h4, h5⟩ := follow_VE f (n + 1) hi (edrop e n) (by omega) (h1.up h2)
      obtain ⟨-, -, -, k1, k2⟩ := h.find hf
      have e1 : (follow f (n + 1) (edrop e n)).1 = (List.range j).map (fun i : Nat => nb (n + 1 + (i : Int))) := by rw [h3]
      have e2 : (follow f (n + 1) (edrop e n)).2.1 = n + 1 + j := by rw [h3]
      have e3 : follow (f + 1) n e = (s :: (follow f (n + 1) (edrop e n)).1, (follow f (n + 1) (edrop e n)).2) := by simp [follow, hf]
      refine ⟨j + 1, ?_, ?_, fun _ => by have := h5 (by omega); omega⟩
      · rw [e3]
        refine Prod.ext ?_ (Prod.ext ?_ rfl)
        · simp only [e1, k2]
          rw [List.range_succ_eq_map, List.map_cons, List.map_map]
          congr 1
          · simp
          · exact List.map_congr_left fun i _ => by simp only [Function.comp]; congr 1; simp; omega
        · simp only [e2]; omega
      · rw [e3]
        simp only
        rwa [show n + ((j + 1 : Nat) : Int) + 1 = n + 1 + j + 1 by omega]
end Go.Proofs.Ytokigldggkkbcaa
