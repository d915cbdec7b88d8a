/- One body handed to a receiver beside other memory: what is told. No condition. -/
import Derived.Test.YtokigldggkkbcaaBothPlain
set_option linter.unusedVariables false
namespace Go.Proofs.Ytokigldggkkbcaa
open Go.RowKit Go.RR

/-- A receiver that keeps off the blocks of F; since world w3 no block of F has changed. -/
def RIn (w0 w3 : World) (F : Nat → Prop) (w : World) (b : Nat) (room : Int) (told : Nat) (e : Early) : Prop :=
  (∃ S : Nat → Prop, RecvAt S w b room (told + 1) e ∧ ∀ q, S q → w0.heap.size ≤ q ∧ ¬ F q) ∧ Chg (fun q => w0.heap.size ≤ q ∧ ¬ F q) w3 w
section
variable {w0 w3 w w' : World} {F : Nat → Prop} {b told : Nat} {room : Int} {e e' : Early}
theorem RIn.chg0 (h : RIn w0 w3 F w b room told e) (c : Chg NoB w w') : RIn w0 w3 F w' b room told e := by
  obtain ⟨⟨S, h1, h2⟩, h3⟩ := h
  exact ⟨⟨S, h1.chg c fun _ _ => id, h2⟩, h3.then0 c⟩
end
theorem RIn.enter {w0 w3 w : World} {F : Nat → Prop} {b told : Nat} {room : Int} {e : Early} (h : RIn w0 w3 F w b room told e) (o : Obj) : RIn w0 (w.alloc o) (fun q => F q ∨ q = w.heap.size) (w.alloc o) b room told e := by
  obtain ⟨⟨S, h1, h2⟩, h3⟩ := h
  refine ⟨⟨fun q => S q ∧ q < w.heap.size, (h1.bound fun k a b => ⟨b, a⟩).chg ((Chg.refl NoB w).alloc o) fun _ _ => id, fun q hq => ⟨(h2 q hq.1).1, fun e => ?_⟩⟩, Chg.refl _ _⟩
  rcases e with e | e
  · exact (h2 q hq.1).2 e
  · have := hq.2; omega
theorem RIn.leave {w0 w3 w4 w : World} {F F' : Nat → Prop} {b told : Nat} {room : Int} {e : Early} (h : RIn w0 w4 F' w b room told e) (hF : ∀ q, F q → F' q) (c : Chg (fun q => w0.heap.size ≤ q ∧ ¬ F q) w3 w4) : RIn w0 w3 F w b room told e := by
  obtain ⟨⟨S, h1, h2⟩, h3⟩ := h
  exact ⟨⟨S, h1, fun q hq => ⟨(h2 q hq).1, fun e => (h2 q hq).2 (hF q e)⟩⟩, c.step (h3.mono fun q _ hq => ⟨hq.1, fun e => hq.2 (hF q e)⟩)⟩
theorem oneBody {off : List ByteArray} {told j : Nat} : ((off.drop told).take j).length ≤ j := List.length_take_le _ _

set_option maxHeartbeats 1000000 in
theorem takeBoth {w0 w3 : World} {F : Nat → Prop} {Sv : Nat → Prop} {w : World} {b told n : Nat} {room hi : Int} {e : Early} {off : List ByteArray} (v : Value) (s : ByteArray) (h : RIn w0 w3 F w b room told e) (hF : ∀ q, F q → q < w3.heap.size) (hV : VB off (told + 2) hi e) (hv : Sl w Sv 1 v s.size (byteCells s)) (hn : off[n]? = some s) (hnh : (n : Int) + 1 ≤ hi) (hhi : hi ≤ off.length) (hol : off.length ≤ 40)
    (hsz : s.size ≤ 4120) (r0 : 0 ≤ room) (r1 : room ≤ 64) (ht : (told : Int) ≤ hi) :
    Calls Try.prog 16 #[.pointer (some ⟨b, 0, none⟩), .int .u64 ((n : Int) + 1), v] w (RetV fun r w' => ∃ (q : Value) (ok : Bool) (vs : List Value) (j : Nat) (e2 : Early) (S1 S2 : Nat → Prop), r = .tuple #[q, .bool ok] ∧ RIn w0 w3 F w' b room (told + j) e2 ∧ VB off ((told + j : Nat) + 2) hi e2 ∧
      Sl w' S1 1 q j vs ∧ Bodies w' S2 vs ((off.drop told).take j) ∧ (told : Int) + j ≤ hi ∧ (n = told → 0 < j) ∧ (n ≠ told → j = 0)) := by
  obtain ⟨⟨S, hR, hS⟩, hC⟩ := h
  have hcnt : e.length ≤ 100 := VB.count 100 _ _ e (by omega) hV
  have out : n ≠ told → Calls Try.prog 16 #[.pointer (some ⟨b, 0, none⟩), .int .u64 ((n : Int) + 1), v] w (RetW (.tuple #[.slice none 0 0, .bool false]) fun w' => Chg NoB w w') → Calls Try.prog 16 #[.pointer (some ⟨b, 0, none⟩), .int .u64 ((n : Int) + 1), v] w (RetV fun r w' => ∃ (q : Value) (ok : Bool) (vs : List Value) (j : Nat) (e2 : Early) (S1 S2 : Nat → Prop), r = .tuple #[q, .bool ok] ∧ RIn w0 w3 F w' b room (told + j) e2 ∧ VB off ((told + j : Nat) + 2) hi e2 ∧
      Sl w' S1 1 q j vs ∧ Bodies w' S2 vs ((off.drop told).take j) ∧ (told : Int) + j ≤ hi ∧ (n = told → 0 < j) ∧ (n ≠ told → j = 0)) := by
    intro hne hc
    refine hc.mono ?_
    rintro x w' ⟨rfl, C⟩
    exact ⟨_, rfl, _, _, [], 0, e, NoB, NoB, rfl, RIn.chg0 ⟨⟨S, hR, hS⟩, hC⟩ C, hV, Sl.nil _ _ _, by simp [Bodies], by omega, fun h => absurd h hne, fun _ => rfl⟩
  by_cases h1 : (n : Int) + 1 < told + 1
  · exact out (by omega) (takeOut S w b room _ _ e v hR r0 r1 (by omega) (by omega) (by omega) (by omega) (.inl h1))
  by_cases h2 : room < (n : Int) + 1 - (told + 1)
  · exact out (by omega) (takeOut S w b room _ _ e v hR r0 r1 (by omega) (by omega) (by omega) (by omega) (.inr h2))
  have put : ∀ outs n2 e2, efind e ((n : Int) + 1) = none → follow (e.length + 1) ((told : Int) + 1) (e ++ [((n : Int) + 1, s)]) = (outs, n2, e2) → ∀ j : Nat, n2 = (told : Int) + j + 1 → outs = (off.drop told).take j → outs.length = j → VB off ((told + j : Nat) + 2) hi e2 → (told : Int) + j ≤ hi → (n = told → 0 < j) → (n ≠ told → j = 0) → Calls Try.prog 16 #[.pointer (some ⟨b, 0, none⟩), .int .u64 ((n : Int) + 1), v] w (RetV fun r w' => ∃ (q : Value) (ok : Bool) (vs : List Value) (j : Nat) (e2 : Early) (S1 S2 : Nat → Prop), r = .tuple #[q, .bool ok] ∧ RIn w0 w3 F w' b room (told + j) e2 ∧ VB off ((told + j : Nat) + 2) hi e2 ∧
      Sl w' S1 1 q j vs ∧ Bodies w' S2 vs ((off.drop told).take j) ∧ (told : Int) + j ≤ hi ∧ (n = told → 0 < j) ∧ (n ≠ told → j = 0)) := by
    intro outs n2 e2 hf hfo j hn2 hou hlen hv2 hjh hj1 hj2
    refine (takeIn S Sv w b room _ _ e v s hR hv (by omega) r0 r1 (by omega) (by omega) (by omega) (by omega) (by omega) (by omega) hf outs n2 e2 hfo).mono ?_
    rintro x w' ⟨r, rfl, q, vs, rfl, R, C, O, B⟩
    have hsz3 := hC.size
    refine ⟨_, rfl, q, true, vs, j, e2, _, _, rfl, ⟨⟨Grow S w, ?_, ?_⟩, hC.trans C fun q _ h => hS q h⟩, hv2, hlen ▸ O.sl, hou ▸ B, hjh, hj1, hj2⟩
    · rw [hn2] at R
      exact (show ((told + j : Nat) : Int) + 1 = (told : Int) + j + 1 by omega) ▸ R
    · intro q hq
      rcases hq with hq | hq
      · exact hS q hq
      · exact ⟨by
          obtain ⟨mb, m, hSb, -, -, hb, -, -⟩ := hR
          obtain ⟨hb1, -⟩ := hS b hSb
          have := hb.lt
          omega, fun e => by have := hF q e; omega⟩
  by_cases h3 : n = told
  · subst h3
    have hf : efind e ((n : Int) + 1) = none := VB.low (by omega) hV
    have V2 : VB off ((n : Int) + 1) hi (e ++ [((n : Int) + 1, s)]) := (hV.wide (lo' := (n : Int) + 1) (hi' := hi) (by omega) (Int.le_refl _)).put (by omega) hnh ⟨n, rfl, hn⟩ hf
    obtain ⟨j, e2, f1, f2, f3, f4, f5⟩ := follow_VB (e.length + 1) n hi (e ++ [((n : Int) + 1, s)]) (by simp) V2
    have hj := f3 (by omega)
    refine put _ _ _ hf f1 j rfl rfl ?_ (by simpa using f2) hj (fun _ => f5.2 ?_) (fun h => absurd rfl h)
    · rw [List.length_take, List.length_drop]
      have := (List.getElem?_eq_some_iff.1 hn).1
      omega
    · rw [VB.has hV hf]; rfl
  · cases hf : efind e ((n : Int) + 1) with
    | some s' => exact out h3 (takeHas S w b room _ _ e v hR r0 r1 (by omega) (by omega) (by omega) (by omega) (by omega) (by omega) s' hf)
    | none =>
      have V2 : VB off ((told : Int) + 2) hi (e ++ [((n : Int) + 1, s)]) := hV.put (by omega) hnh ⟨n, rfl, hn⟩ hf
      have hf2 : efind (e ++ [((n : Int) + 1, s)]) ((told : Int) + 1) = none := VB.low (by omega) V2
      exact put _ _ _ hf (follow_none hf2 _) 0 (by simp) (by simp) rfl (by simpa using V2) (by omega) (fun h => absurd h h3) (fun _ => rfl)
end Go.Proofs.Ytokigldggkkbcaa
