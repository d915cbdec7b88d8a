/- A region that draws its order, by an invariant over what is listed: any ready operation leads from I to I. No condition. -/
import Derived.Test.YtfidiiifcmmffaaGreatDoorKit2
set_option linter.unusedVariables false
set_option linter.unusedSimpArgs false
namespace Go.RR
open Go.RowKit
section
variable {P : Program} {ops : Array Oper} {md : Region.Mode} {Q : Exit → Act → World → Prop}

def left (listed : Array Bool) : Nat := listed.toList.count false

theorem left_set {listed : Array Bool} {i : Nat} (h : listed.getD i true = false) : left (listed.setIfInBounds i true) + 1 = left listed := by
  have hi : i < listed.toList.length := by
    rcases Nat.lt_or_ge i listed.size with c | c
    · simpa using c
    · simp [Array.getD, Nat.not_lt.2 c] at h
  have hv : listed.toList[i] = false := by
    have hi' : i < listed.size := by simpa using hi
    simpa [Array.getD, hi'] using h
  have hp : 0 < listed.toList.count false := List.count_pos_iff.2 (hv ▸ List.getElem_mem hi)
  show (listed.setIfInBounds i true).toList.count false + 1 = _
  rw [Array.toList_setIfInBounds, List.count_set hi, hv]
  show _ = listed.toList.count false
  revert hp
  generalize listed.toList.count false = c
  intro hp
  have e1 : ((false == false) = true) = True := by simp
  have e2 : ((true == false) = true) = False := by simp
  simp only [e1, e2, if_true, if_false]
  omega

theorem wpAny_inv (I : Array Bool → Act → World → Prop)
    (step : ∀ i listed a w, i ∈ Region.ready md ops listed → I listed a w → wpOp P ops Q i (fun a' w' => I (listed.setIfInBounds i true) a' w') a w)
    (done : ∀ listed a w, Region.ready md ops listed = [] → I listed a w → Q .normal a w) :
    ∀ (fuel : Nat) (listed : Array Bool) (a : Act) (w : World), left listed ≤ fuel → I listed a w → wpAny P md ops Q fuel listed a w
  | 0, listed, a, w, hf, h => by
    have hr : Region.ready md ops listed = [] := by
      cases hr : Region.ready md ops listed with
      | nil => rfl
      | cons i l =>
        have := left_set (mem_ready.1 (hr ▸ List.mem_cons_self : i ∈ Region.ready md ops listed)).1
        omega
    exact ⟨hr, done listed a w hr h⟩
  | f + 1, listed, a, w, hf, h => ⟨fun hr => done listed a w hr h, fun i hi => wpOp_mono (fun a' w' h' => by
      have := left_set (mem_ready.1 hi).1
      exact wpAny_inv I step done f _ a' w' (by omega) h') (step i listed a w hi h)⟩

theorem wp_region_inv {id : Nat} {a : Act} {w : World} (hm : P.follows .mixedOrders = true) (I : Array Bool → Act → World → Prop)
    (h0 : I (Array.replicate ops.size false) a { w with drawn := w.drawn + 1 })
    (step : ∀ i listed a w, i ∈ Region.ready .any ops listed → I listed a w → wpOp P ops Q i (fun a' w' => I (listed.setIfInBounds i true) a' w') a w)
    (done : ∀ listed a w, Region.ready .any ops listed = [] → I listed a w → Q .normal a w) : (Code.region id ops true).wp P Q a w :=
  wp_region_any hm (wpAny_inv I step done _ _ a _ (by simp [left]) h0)
end
end Go.RR
