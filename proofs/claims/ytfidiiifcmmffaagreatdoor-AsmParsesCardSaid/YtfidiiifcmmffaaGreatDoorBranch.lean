/- A region that draws its order: bare operations first, then some that write memory in every order that may come up, then the tail. -/
import Derived.Test.YtfidiiifcmmffaaGreatDoorKit
set_option linter.unusedVariables false
namespace Go.RR
open Go.RowKit
section
variable {P : Program} {ops : Array Oper} {md : Region.Mode} {S : World → Prop} {Q : Exit → Act → World → Prop}
/-- m operations, whichever is ready, S behind each; then R. -/
def wpAll (P : Program) (md : Region.Mode) (ops : Array Oper) (Q : Exit → Act → World → Prop) (S : World → Prop) (R : Act → World → Prop) : Nat → Array Bool → Act → World → Prop
  | 0, _, a, w => R a w
  | f + 1, listed, a, w => ∀ i ∈ Region.ready md ops listed, wpOp P ops Q i (fun a' w' => S w' ∧ wpAll P md ops Q S R f (listed.setIfInBounds i true) a' w') a w
def allB (md : Region.Mode) (ops : Array Oper) (g n : Nat) : Nat → Array Bool → Bool
  | 0, listed => Region.seqB md ops g n listed
  | f + 1, listed => !(Region.ready md ops listed).isEmpty && (Region.ready md ops listed).all fun i => decide (i < n) && allB md ops g n f (listed.setIfInBounds i true)
theorem anyK_all {n : Nat} (hn : n < ops.size) : ∀ (f : Nat) (listed : Array Bool) (a : Act) (w : World), allB md ops (ops.size - n) n f listed = true →
    wpAll P md ops Q S (wpList P ops Q (ops.toList.drop n)) f listed a w → anyK P md ops Q S n (f + (ops.size - n)) listed a w
  | 0, listed, a, w, hB, h => by
    have hl : (ops.toList.drop n).length = ops.size - n := by simp
    rw [Nat.zero_add, ← hl]
    exact anyK_seq _ n listed a w (Nat.le_refl _) (fun j => by simp) (by rw [hl]; exact hB) h
  | f + 1, listed, a, w, hB, h => by
    simp only [allB, Bool.and_eq_true, List.all_eq_true, decide_eq_true_eq] at hB
    obtain ⟨hne, hall⟩ := hB
    rw [show f + 1 + (ops.size - n) = (f + (ops.size - n)) + 1 by omega]
    refine ⟨fun h1 => (by rw [h1] at hne; simp at hne), fun i hi => ?_⟩
    exact wpOp_mono (fun a' w' h' => ⟨fun _ => h'.1, anyK_all hn f _ a' w' (hall i hi).2 h'.2⟩) (h i hi)
def takeAllB (md : Region.Mode) (ops : Array Oper) (g n m : Nat) : List Nat → Array Bool → Bool
  | [], listed => allB md ops g n m listed
  | k :: l, listed => decide (k < n) && (((ops[k]?).bind (·.dst)).isSome) && (Region.ready md ops listed).contains k && Region.free md ops listed k && takeAllB md ops g n m l (listed.setIfInBounds k true)
def takenL : List Nat → Array Bool → Array Bool
  | [], l => l
  | k :: A, l => takenL A (l.setIfInBounds k true)
theorem anyK_takeAll {n m : Nat} (hsel : Region.noSelect ops = true) (hs : Region.sinkB md ops n = true) (hc : Region.chainB md ops n = true) (hn : n < ops.size)
    (hQ : ∀ c a d v w, Q (.panic c) (a.put (some d) v) w → Q (.panic c) a w) :
    ∀ (A : List Nat) (listed : Array Bool) (a : Act) (w : World), S w → HeadInv md ops n listed → takeAllB md ops (ops.size - n) n m A listed = true →
    wpTake P ops S (fun a' => wpAll P md ops Q S (wpList P ops Q (ops.toList.drop n)) m (takenL A listed) a' w) (pickOps ops A) a → anyK P md ops Q S n (A.length + (m + (ops.size - n))) listed a w
  | [], listed, a, w, hS, _, hB, h => by
    rw [List.length_nil, Nat.zero_add]
    exact anyK_all hn m listed a w hB h
  | k :: A, listed, a, w, hS, inv, hB, h => by
    simp only [takeAllB, Bool.and_eq_true, decide_eq_true_eq] at hB
    obtain ⟨⟨⟨⟨hkn, hd⟩, hr⟩, hf⟩, hB'⟩ := hB
    have hr' : k ∈ Region.ready md ops listed := by simpa using hr
    obtain ⟨hkun, o, h0, _⟩ := mem_ready.1 hr'
    rw [pickOps_cons, h0, Option.getD_some] at h
    obtain ⟨v, hy, hK⟩ := h
    rw [h0] at hd
    obtain ⟨d, hd'⟩ := Option.isSome_iff_exists.1 hd
    simp only [Option.bind_some] at hd'
    rw [show (k :: A).length + (m + (ops.size - n)) = (A.length + (m + (ops.size - n))) + 1 by simp; omega]
    exact anyK_first h0 (Region.noSelect_spec hsel) hs hc hn hkn (fun c a w => by rw [hd']; exact hQ c a d _ w) _ listed a w inv (Region.free_spec h0 hf) hr' hy hS
      (anyK_takeAll hsel hs hc hn hQ A _ _ w hS (inv.set hr' hkn) hB' hK)
def heldAllB (md : Region.Mode) (ops : Array Oper) (n m : Nat) (A : List Nat) : Bool :=
  Region.noSelect ops && decide (n < ops.size) && decide (A.length + m = n) && Region.sinkB md ops n && Region.chainB md ops n && takeAllB md ops (ops.size - n) n m A (Array.replicate ops.size false)
theorem wp_region_all {id : Nat} {a : Act} {w : World} {l : List Oper} (n m : Nat) (A : List Nat) (S : World → Prop) (hm : P.follows .mixedOrders = true) (hB : heldAllB .any l.toArray n m A = true)
    (hQ : ∀ c a d v w, Q (.panic c) (a.put (some d) v) w → Q (.panic c) a w) (hS : S w.drew)
    (h : wpTake P l.toArray S (fun a' => wpAll P .any l.toArray Q S (wpList P l.toArray Q (l.drop n)) m (takenL A (Array.replicate l.toArray.size false)) a' w.drew) (pickOps l.toArray A) a) : (Code.region id l.toArray true).wp P Q a w := by
  simp only [heldAllB, Bool.and_eq_true, decide_eq_true_eq] at hB
  obtain ⟨⟨⟨⟨⟨hsel, hn⟩, hAB⟩, hs⟩, hc⟩, ht⟩ := hB
  have inv0 : HeadInv .any l.toArray n (Array.replicate l.toArray.size false) :=
    ⟨by simp, fun j oj _ hl => (by rw [getD_replicate_false] at hl; cases hl), fun t _ ht => getD_in (by simpa using ht) (getD_replicate_false _ _)⟩
  have := anyK_takeAll (P := P) (S := S) (m := m) hsel hs hc hn hQ A _ a w.drew hS inv0 ht h
  rw [show A.length + (m + (l.toArray.size - n)) = l.toArray.size by omega] at this
  exact wp_region_any hm (anyK_any _ _ _ _ this)
theorem wpAll_nil {R : Act → World → Prop} {listed : Array Bool} {a : Act} {w : World} (h : R a w) : wpAll P md ops Q S R 0 listed a w := h
theorem wpAll_cons {R : Act → World → Prop} {f : Nat} {listed : Array Bool} {a : Act} {w : World} (l : List Nat) (hr : Region.ready md ops listed = l)
    (h : ∀ i ∈ l, ∃ o : Oper, ops[i]? = some o ∧ o.guard = none ∧ ∀ K : Act → World → Prop, (∀ a' w', S w' → wpAll P md ops Q S R f (listed.setIfInBounds i true) a' w' → K a' w') → o.wp P a w K Q) : wpAll P md ops Q S R (f + 1) listed a w := by
  intro i hi
  rw [hr] at hi
  obtain ⟨o, h0, hg, hK⟩ := h i hi
  unfold wpOp
  simp only [h0]
  rw [if_pos (by simp [Region.wanted, hg])]
  exact .inl (hK _ fun a' w' h1 h2 => ⟨h1, h2⟩)
end
end Go.RR
