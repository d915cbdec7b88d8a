/- A sender and a receiver in plain words: what is told, and how long it takes at most. No condition. -/
import Derived.Test.YtokigldggkkbcaaSendPlain
import Derived.Test.YtokigldggkkbcaaRecvPlain
set_option linter.unusedVariables false
namespace Go.Proofs.Ytokigldggkkbcaa
open Go.RowKit Go.RR

/-- Early bodies of a receiver: their numbers, each once, and the bodies of these numbers. -/
def VB (off : List ByteArray) (lo hi : Int) : Early → Prop
  | [] => True
  | p :: e => (lo ≤ p.1 ∧ p.1 ≤ hi ∧ ∃ n : Nat, p.1 = n + 1 ∧ off[n]? = some p.2) ∧ efind e p.1 = none ∧ VB off lo hi e

section
variable {off : List ByteArray}
theorem VB.find {lo hi a : Int} {s : ByteArray} : ∀ {e : Early}, VB off lo hi e → efind e a = some s → lo ≤ a ∧ a ≤ hi ∧ ∃ n : Nat, a = n + 1 ∧ off[n]? = some s
  | [], _, h => by simp [efind] at h
  | p :: e, hv, h => by
    by_cases hp : p.1 = a
    · simp only [efind, if_pos hp, Option.some.injEq] at h
      subst hp
      exact h ▸ hv.1
    · simp only [efind, if_neg hp] at h
      exact hv.2.2.find h
theorem VB.drop {lo hi a : Int} : ∀ {e : Early}, VB off lo hi e → VB off lo hi (edrop e a) ∧ efind (edrop e a) a = none
  | [], _ => ⟨trivial, rfl⟩
  | p :: e, h => by
    by_cases ha : p.1 = a
    · subst ha
      simp only [edrop, if_true]
      exact ⟨h.2.2, h.2.1⟩
    · obtain ⟨h1, h2⟩ := VB.drop (a := a) h.2.2
      simp only [edrop, if_neg ha]
      exact ⟨⟨h.1, efind_drop h.2.1, h1⟩, by simp [efind, ha, h2]⟩
theorem VB.up {lo hi : Int} : ∀ {e : Early}, VB off lo hi e → efind e lo = none → VB off (lo + 1) hi e
  | [], _, _ => trivial
  | p :: e, h, hn => by
    by_cases hp : p.1 = lo
    · simp [efind, hp] at hn
    · simp only [efind, if_neg hp] at hn
      have := h.1.1
      exact ⟨⟨by omega, h.1.2⟩, h.2.1, h.2.2.up hn⟩
theorem VB.wide {lo hi lo' hi' : Int} (h1 : lo' ≤ lo) (h2 : hi ≤ hi') : ∀ {e : Early}, VB off lo hi e → VB off lo' hi' e
  | [], _ => trivial
  | p :: e, h => ⟨⟨by have := h.1.1; omega, by have := h.1.2.1; omega, h.1.2.2⟩, h.2.1, h.2.2.wide h1 h2⟩
theorem VB.put {lo hi a : Int} {s : ByteArray} (b1 : lo ≤ a) (b2 : a ≤ hi) (b3 : ∃ n : Nat, a = n + 1 ∧ off[n]? = some s) : ∀ {e : Early}, VB off lo hi e → efind e a = none → VB off lo hi (e ++ [(a, s)])
  | [], _, _ => ⟨⟨b1, b2, b3⟩, rfl, trivial⟩
  | p :: e, h, hn => by
    by_cases hp : p.1 = a
    · simp [efind, hp] at hn
    · simp only [efind, if_neg hp] at hn
      exact ⟨h.1, efind_snoc h.2.1 hp, h.2.2.put b1 b2 b3 hn⟩
theorem VB.low {lo hi a : Int} (ha : a < lo) : ∀ {e : Early}, VB off lo hi e → efind e a = none
  | [], _ => rfl
  | p :: e, h => by
    have := h.1.1
    rw [efind, if_neg (by omega)]
    exact VB.low ha h.2.2
theorem VB.count : ∀ (n : Nat) (lo hi : Int) (e : Early), hi - lo + 1 ≤ n → VB off lo hi e → e.length ≤ n
  | 0, lo, hi, [], _, _ => Nat.le_refl _
  | 0, lo, hi, p :: e, hn, h => by have := h.1.1; have := h.1.2.1; omega
  | n + 1, lo, hi, e, hn, h => by
    cases hf : efind e lo with
    | none => exact Nat.le_succ_of_le (VB.count n (lo + 1) hi e (by omega) (h.up hf))
    | some s =>
      obtain ⟨h1, h2⟩ := h.drop (a := lo)
      have := VB.count n (lo + 1) hi (edrop e lo) (by omega) (h1.up h2)
      have := edrop_len hf
      omega
theorem VB.has {lo hi a : Int} {s : ByteArray} : ∀ {e : Early}, VB off lo hi e → efind e a = none → efind (e ++ [(a, s)]) a = some s
  | [], _, _ => by simp [efind]
  | p :: e, h, hn => by
    by_cases hp : p.1 = a
    · simp [efind, hp] at hn
    · simp only [efind, if_neg hp] at hn
      simp only [List.cons_append, efind, if_neg hp]
      exact VB.has h.2.2 hn

/-- What follows: the next bodies in their order. -/
theorem follow_VB : ∀ (f told : Nat) (hi : Int) (e : Early), e.length ≤ f → VB off (told + 1) hi e → ∃ (j : Nat) (e2 : Early), follow f (told + 1) e = ((off.drop told).take j, (told : Int) + j + 1, e2) ∧ VB off (told + j + 2) hi e2 ∧ ((told : Int) ≤ hi → (told : Int) + j ≤ hi) ∧ told + j ≤ max told off.length ∧ (0 < j ↔ (efind e (told + 1)).isSome = true)
  | 0, told, hi, e, hl, h => by
    obtain rfl : e = [] := List.eq_nil_of_length_eq_zero (by omega)
    exact ⟨0, [], by simp [follow], trivial, by omega, by omega, by simp [efind]⟩
  | f + 1, told, hi, e, hl, h => by
    cases hf : efind e (told + 1) with
    | none => exact ⟨0, e, by simp [follow, hf], by simpa [Int.add_assoc] using h.up hf, by omega, by omega, by simp⟩
    | some s =>
      obtain ⟨h1, h2⟩ := h.drop (a := told + 1)
      have hlen := edrop_len hf
      obtain ⟨j, e2, h3, h4, h5, h6, -⟩ := follow_VB f (told + 1) hi (edrop e (told + 1)) (by omega) (by have := h1.up h2; simpa [Int.add_assoc] using this)
      obtain ⟨-, k0, n, k1, k2⟩ := h.find hf
      obtain rfl : n = told := by omega
      have hb := (List.getElem?_eq_some_iff.1 k2).1
      refine ⟨j + 1, e2, ?_, ?_, fun _ => by have := h5 (by omega); omega, by omega, by simp⟩
      · have e1 : off.drop n = s :: off.drop (n + 1) := by
          rw [List.drop_eq_getElem_cons hb]
          congr 1
          rw [List.getElem?_eq_getElem hb] at k2
          exact Option.some.inj k2
        have h3' : follow f ((n : Int) + 1 + 1) (edrop e ((n : Int) + 1)) = ((off.drop (n + 1)).take j, ((n + 1 : Nat) : Int) + j + 1, e2) := by rw [← h3]; simp
        simp only [follow, hf, h3']
        rw [e1]
        simp only [List.take_succ_cons]
        refine Prod.ext rfl (Prod.ext ?_ rfl)
        simp only
        omega
      · have : ((n + 1 : Nat) : Int) + j + 2 = (n : Int) + ((j + 1 : Nat) : Int) + 2 := by omega
        rwa [this] at h4
end

theorem Flow.ackedLe {off : List ByteArray} {c : Nat} {line : List ByteArray} {fl : List Fl} {next : Int} (h : Flow off c line fl next) (told : Nat) (hc : c ≤ told) (ht : (told : Int) ≤ next - 1) :
    ∃ c2 : Nat, Flow off c2 line (ackF (told + 1) next fl) next ∧ c2 ≤ told ∧ (∀ f ∈ ackF (told + 1) next fl, f ∈ fl ∧ (told : Int) + 1 ≤ f.seq) := by
  unfold ackF
  rw [if_neg (by omega)]
  obtain ⟨d, h1, h2, h3⟩ := filter_drop (told + 1) fl c fun i f hf => (h.hfl i f hf).1
  refine ⟨c + d, ?_, ?_, ?_⟩
  · rw [h2]
    have hl : (fl.drop d).length = fl.length - d := by simp
    refine ⟨fun i f hf => ?_, ?_, by rw [hl]; have := h.hnext; omega, by rw [hl]; have := h.hlen; omega⟩
    · rw [List.getElem?_drop] at hf
      obtain ⟨a1, a2, a3⟩ := h.hfl (d + i) f hf
      exact ⟨by omega, by rw [Nat.add_assoc]; exact a2, a3⟩
    · rw [hl, show c + d + (fl.length - d) = c + fl.length by omega]; exact h.hline
  · by_cases hd : 0 < d
    · have := h3 hd; omega
    · omega
  · intro f hf
    obtain ⟨h4, h5⟩ := List.mem_filter.1 hf
    refine ⟨h4, ?_⟩
    simp at h5
    exact h5

/-- How long it may have taken: so many ticks, so many frames seen, so many bodies told. -/
structure Pot (now k told : Nat) (fl : List Fl) (next : Int) : Prop where
  e1 : now ≤ 6 * min k 500 + 6 * told
  e2 : ∀ f ∈ fl, f.due ≤ now + 5
  e3 : ∀ f ∈ fl, f.seq = told + 1 → f.due ≤ 6 * min k 500 + 6 * told
  e4 : next = told + 1 → fl ≠ [] → now + 1 + now % 2 ≤ 6 * min k 500 + 6 * told

/-- What is new under way. -/
theorem fillF_new {window wait t : Int} : ∀ (line : List ByteArray) (fl : List Fl) (next : Int), ∃ new : List Fl, (fillF window wait t line fl next).2.2.1 = fl ++ new ∧ (∀ f ∈ new, f.due = t + wait ∧ (f.seq, f.b) ∈ (fillF window wait t line fl next).1) ∧
    (fillF window wait t line fl next).2.2.2 = next + (fillF window wait t line fl next).1.length ∧ (line ≠ [] → (fl.length : Int) < window → (fillF window wait t line fl next).1 ≠ [])
  | [], fl, next => ⟨[], by simp [fillF], by simp, by simp [fillF], by simp⟩
  | b :: line, fl, next => by
    unfold fillF
    by_cases hlt : (fl.length : Int) < window
    · obtain ⟨new, h1, h2, h3, h4⟩ := fillF_new (window := window) (wait := wait) (t := t) line (fl ++ [⟨next, b, t + wait, wait⟩]) (next + 1)
      rw [if_pos hlt]
      refine ⟨⟨next, b, t + wait, wait⟩ :: new, by simp [h1], fun f hf => ?_, by simp only [h3, List.length_cons]; omega, by simp⟩
      rcases List.mem_cons.1 hf with rfl | hf
      · exact ⟨rfl, List.mem_cons_self ..⟩
      · exact ⟨(h2 f hf).1, List.mem_cons_of_mem _ (h2 f hf).2⟩
    · rw [if_neg hlt]
      exact ⟨[], by simp, by simp, by simp, fun _ h => absurd h hlt⟩

/-- A tick. -/
theorem Pot.tick {off : List ByteArray} {window : Int} {now k told c : Nat} {line line2 : List ByteArray} {fl fl2 : List Fl} {next next2 : Int} {o2 : List (Int × ByteArray)} (h : Pot now k told fl next) (hF : Flow off c line fl next) (hF2 : Flow off c line2 fl2 next2) (hw : 1 ≤ window) (hc : c ≤ told) (ht : (told : Int) ≤ next - 1)
    (hres : fillF window 2 now line (fl.map (agF now 6)) next = (o2, line2, fl2, next2)) (hgo : told < off.length ∨ fl ≠ [])
    {told2 : Nat} (h1 : told ≤ told2) (h2 : (told2 : Int) ≤ next2 - 1) (d1 : (∃ s, ((told : Int) + 1, s) ∈ agOut now fl ++ o2) → 500 ≤ k → told < told2) (d2 : (¬ ∃ s, ((told : Int) + 1, s) ∈ agOut now fl ++ o2) → told2 = told) :
    Pot (now + 1) (k + (agOut now fl ++ o2).length) told2 (if now % 2 = 0 then ackF (told2 + 1) next2 fl2 else fl2) next2 := by
  obtain ⟨new, n1, n2, n3, n4⟩ := fillF_new (window := window) (wait := 2) (t := now) line (fl.map (agF now 6)) next
  rw [hres] at n1 n2 n3 n4
  simp only at n1 n2 n3 n4
  have hsub : ∀ f ∈ (if now % 2 = 0 then ackF (told2 + 1) next2 fl2 else fl2), f ∈ fl2 := by
    intro f hf
    split at hf
    · unfold ackF at hf
      rw [if_neg (by omega)] at hf
      exact (List.mem_filter.1 hf).1
    · exact hf
  have old : ∀ f ∈ fl2, (f ∈ new) ∨ ∃ g ∈ fl, f = agF now 6 g := by
    intro f hf
    rw [n1] at hf
    rcases List.mem_append.1 hf with hf | hf
    · obtain ⟨g, hg, rfl⟩ := List.mem_map.1 hf
      exact .inr ⟨g, hg, rfl⟩
    · exact .inl hf
  have M1 : ∀ f ∈ fl2, f.due ≤ now + 6 := by
    intro f hf
    rcases old f hf with hf | ⟨g, hg, rfl⟩
    · rw [(n2 f hf).1]; omega
    · have := h.e2 g hg
      unfold agF
      split
      · simp only; omega
      · omega
  have M2 : ∀ f ∈ fl2, f.seq = told + 1 → (∃ s, ((told : Int) + 1, s) ∈ agOut now fl ++ o2) ∨ ((now : Int) < f.due ∧ f.due ≤ 6 * min k 500 + 6 * told) := by
    intro f hf hs
    rcases old f hf with hf | ⟨g, hg, rfl⟩
    · exact .inl ⟨f.b, List.mem_append_right _ (by rw [← hs]; exact (n2 f hf).2)⟩
    · rw [agF_seq] at hs
      by_cases hd : g.due ≤ now
      · refine .inl ⟨g.b, List.mem_append_left _ ?_⟩
        unfold agOut
        rw [← hs]
        exact List.mem_map.2 ⟨g, List.mem_filter.2 ⟨hg, by simp [hd]⟩, rfl⟩
      · refine .inr ?_
        unfold agF
        rw [if_neg hd]
        exact ⟨by omega, h.e3 g hg hs⟩
  have M3 : next2 = told + 1 → now + 1 + now % 2 ≤ 6 * min k 500 + 6 * told := by
    intro hn
    have hnn : next = told + 1 := by omega
    refine h.e4 hnn ?_
    rintro rfl
    have hgo' : told < off.length := by simpa using hgo
    have h3 := hF.hnext
    have h4 := hF.hline
    simp only [List.length_nil] at h3 h4
    have : line ≠ [] := by
      rw [h4]
      intro e
      have := congrArg List.length e
      simp at this
      omega
    have := n4 this (by simp; omega)
    have : o2.length ≠ 0 := fun e => this (List.eq_nil_of_length_eq_zero e)
    omega
  by_cases hS : ∃ s, ((told : Int) + 1, s) ∈ agOut now fl ++ o2
  · have hl : 1 ≤ (agOut now fl ++ o2).length := by
      obtain ⟨s, hs⟩ := hS
      exact List.length_pos_iff.2 (List.ne_nil_of_mem hs)
    have hE : 6 * min k 500 + 6 * told + 6 ≤ 6 * min (k + (agOut now fl ++ o2).length) 500 + 6 * told2 := by
      by_cases hk : 500 ≤ k
      · have := d1 hS hk; omega
      · omega
    have := h.e1
    exact ⟨by omega, fun f hf => by have := M1 f (hsub f hf); omega, fun f hf _ => by have := M1 f (hsub f hf); omega, fun _ _ => by omega⟩
  · have ht2 := d2 hS
    subst ht2
    have hE : 6 * min k 500 + 6 * told2 ≤ 6 * min (k + (agOut now fl ++ o2).length) 500 + 6 * told2 := by omega
    have hE1 : now + 1 ≤ 6 * min k 500 + 6 * told2 := by
      by_cases hn : next2 = told2 + 1
      · have := M3 hn; omega
      · have h3 := hF2.hnext
        obtain ⟨f, hf⟩ : ∃ f, fl2[told2 - c]? = some f := ⟨_, List.getElem?_eq_getElem (by omega)⟩
        have h5 := (hF2.hfl _ f hf).1
        rcases M2 f (List.mem_of_getElem? hf) (by omega) with h | h
        · exact absurd h hS
        · omega
    refine ⟨by omega, fun f hf => by have := M1 f (hsub f hf); omega, fun f hf hs => ?_, fun hn hne => ?_⟩
    · rcases M2 f (hsub f hf) hs with h | h
      · exact absurd h hS
      · omega
    · have h6 := M3 hn
      by_cases he : now % 2 = 0
      · exfalso
        rw [if_pos he] at hne
        apply hne
        unfold ackF
        rw [if_neg (by omega), List.filter_eq_nil_iff]
        intro f hf
        obtain ⟨i, hi⟩ := List.mem_iff_getElem?.1 hf
        have h7 := (hF2.hfl i f hi).1
        have h8 := (List.getElem?_eq_some_iff.1 hi).1
        have h9 := hF2.hnext
        simp
        omega
      · omega
theorem Pot.start (next : Int) : Pot 0 0 0 [] next := ⟨by omega, by simp, by simp, by simp⟩
end Go.Proofs.Ytokigldggkkbcaa
