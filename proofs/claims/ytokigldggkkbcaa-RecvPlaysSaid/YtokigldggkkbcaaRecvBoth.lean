/- The receiver and the reference's receiver side by side, apart. -/
import Derived.Test.YtokigldggkkbcaaRecvSame
set_option linter.unusedVariables false
namespace Go.Proofs.Ytokigldggkkbcaa
open Go.RowKit Go.RR

/-- In world w, above w0: the receiver at b, the reference's at c, apart from each other and from all that was there. -/
def Both (w0 w : World) (b c : Nat) (room n1 : Int) (e1 : Early) (n2 : Int) (e2 : Early) : Prop :=
  ∃ t : Nat → Nat, RecvAt (Tg t 1 w0.heap.size w) w b room n1 e1 ∧ RefR (Tg t 2 w0.heap.size w) w c room n2 e2 ∧ Chg NoB w0 w
section
variable {w0 w w' : World} {b c : Nat} {room n1 n2 n' : Int} {e1 e2 e' : Early} {t : Nat → Nat}
theorem Both.chg0 (h : Both w0 w b c room n1 e1 n2 e2) (k : Chg NoB w w') : Both w0 w' b c room n1 e1 n2 e2 := by
  obtain ⟨t, h1, h2, h3⟩ := h
  exact ⟨t, (h1.chg k fun _ _ => id).bound fun j _ hj => hj.more k.size, (h2.chg k fun _ _ => id).bound fun j _ hj => hj.more k.size, h3.then0 k⟩
theorem Both.above {S : Nat → Prop} (h : Both w0 w b c room n1 e1 n2 e2) (k : Chg S w w') (hS : ∀ j, S j → w.heap.size ≤ j) : Both w0 w' b c room n1 e1 n2 e2 :=
  h.chg0 (k.mono fun j hj h => absurd hj (Nat.not_lt.2 (hS j h)))
theorem Both.recv (h1 : RecvAt (Grow (Tg t 1 w0.heap.size w) w) w' b room n' e') (k : Chg (Tg t 1 w0.heap.size w) w w') (h2 : RefR (Tg t 2 w0.heap.size w) w c room n2 e2) (h3 : Chg NoB w0 w) : Both w0 w' b c room n' e' n2 e2 :=
  ⟨tup t 1 w.heap.size, h1.bound fun j hj h => Tg.grow k.size h3.size hj h, (h2.chg k fun _ h => Tg.apart (by decide) h).bound fun j _ h => Tg.keep k.size h, h3.trans k fun j hj h => (h.old hj).elim⟩
theorem Both.refr (h1 : RefR (Grow (Tg t 2 w0.heap.size w) w) w' c room n' e') (k : Chg (Tg t 2 w0.heap.size w) w w') (h2 : RecvAt (Tg t 1 w0.heap.size w) w b room n1 e1) (h3 : Chg NoB w0 w) : Both w0 w' b c room n1 e1 n' e' :=
  ⟨tup t 2 w.heap.size, (h2.chg k fun _ h => Tg.apart (by decide) h).bound fun j _ h => Tg.keep k.size h, h1.bound fun j hj h => Tg.grow k.size h3.size hj h, h3.trans k fun j hj h => (h.old hj).elim⟩
end

/-- What one Take does, in plain terms. -/
def Step (room next : Int) (e : Early) (seq : Int) (s : ByteArray) (ok : Bool) (outs : List ByteArray) (n2 : Int) (e2 : Early) : Prop :=
  (ok = false ∧ outs = [] ∧ n2 = next ∧ e2 = e ∧ (seq < next ∨ room < seq - next ∨ (next ≤ seq ∧ seq - next ≤ room ∧ (efind e seq).isSome = true))) ∨
  (ok = true ∧ next ≤ seq ∧ seq - next ≤ room ∧ efind e seq = none ∧ follow (e.length + 1) next (e ++ [(seq, s)]) = (outs, n2, e2))

theorem Step.ex (room next : Int) (e : Early) (seq : Int) (s : ByteArray) : ∃ ok outs n2 e2, Step room next e seq s ok outs n2 e2 := by
  by_cases h1 : seq < next
  · exact ⟨_, _, _, _, .inl ⟨rfl, rfl, rfl, rfl, .inl h1⟩⟩
  by_cases h2 : room < seq - next
  · exact ⟨_, _, _, _, .inl ⟨rfl, rfl, rfl, rfl, .inr (.inl h2)⟩⟩
  cases hf : efind e seq with
  | some s' => exact ⟨_, _, _, _, .inl ⟨rfl, rfl, rfl, rfl, .inr (.inr ⟨by omega, by omega, by rw [hf]; rfl⟩)⟩⟩
  | none => exact ⟨_, _, _, _, .inr ⟨rfl, by omega, by omega, hf, rfl⟩⟩

theorem takeStep (S Sv : Nat → Prop) (w : World) (b : Nat) (room next seq : Int) (e : Early) (v : Value) (s : ByteArray) (h : RecvAt S w b room next e) (hv : Sl w Sv 1 v s.size (byteCells s)) (hsz : s.size ≤ 1000000000) (r0 : 0 ≤ room) (r1 : room ≤ 64) (n0 : 0 ≤ next) (n1 : next + e.length ≤ 900000) (s0 : 0 ≤ seq) (s1 : seq ≤ 18446744073709551615)
    (ok : Bool) (outs : List ByteArray) (n2 : Int) (e2 : Early) (hst : Step room next e seq s ok outs n2 e2) :
    Calls Try.prog 16 #[.pointer (some ⟨b, 0, none⟩), .int .u64 seq, v] w (RetV fun r w' => ∃ q vs, r = .tuple #[q, .bool ok] ∧ RecvAt (Grow S w) w' b room n2 e2 ∧ Chg S w w' ∧ Sl w' (fun k => w.heap.size ≤ k) 1 q outs.length vs ∧ Bodies w' (Grow S w) vs outs) := by
  rcases hst with ⟨rfl, rfl, rfl, rfl, hc⟩ | ⟨rfl, hin, hin2, hf, hfo⟩
  · have out : Calls Try.prog 16 #[.pointer (some ⟨b, 0, none⟩), .int .u64 seq, v] w (RetW (.tuple #[.slice none 0 0, .bool false]) fun w' => Chg NoB w w') := by
      rcases hc with hc | hc | ⟨h1, h2, h3⟩
      · exact takeOut S w b room _ seq _ v h r0 r1 n0 (by omega) s0 s1 (.inl hc)
      · exact takeOut S w b room _ seq _ v h r0 r1 n0 (by omega) s0 s1 (.inr hc)
      · obtain ⟨s', hs'⟩ := Option.isSome_iff_exists.1 h3
        exact takeHas S w b room _ seq _ v h r0 r1 n0 (by omega) s0 s1 h1 h2 s' hs'
    refine out.mono ?_
    rintro x w' ⟨rfl, C⟩
    exact ⟨_, rfl, _, [], rfl, (h.chg C fun _ _ => id).bound fun k _ h => .inl h, C.mono fun _ _ h => h.elim, Sl.nil _ _ _, trivial⟩
  · refine (takeIn S Sv w b room next seq e v s h hv hsz r0 r1 n0 n1 s0 s1 hin hin2 hf outs n2 e2 hfo).mono ?_
    rintro x w' ⟨_, rfl, q, vs, rfl, h1, h2, h3, h4⟩
    exact ⟨_, rfl, q, vs, rfl, h1, h2, h3.sl, h4⟩

theorem refStep (S : Nat → Prop) (w : World) (b : Nat) (room next seq : Int) (e : Early) (s : ByteArray) (h : RefR S w b room next e) (pe : PE (next + 1) (next + room) e) (r0 : 0 ≤ room) (r1 : room ≤ 64) (n0 : 0 ≤ next) (n1 : next + e.length ≤ 900000) (s0 : 0 ≤ seq) (s1 : seq ≤ 18446744073709551615)
    (ok : Bool) (outs : List ByteArray) (n2 : Int) (e2 : Early) (hst : Step room next e seq s ok outs n2 e2) :
    Calls Try.prog 20 #[.pointer (some ⟨b, 0, none⟩), .int .u64 seq, .string s] w (RetV fun r w' => ∃ q, r = .tuple #[q, .bool ok] ∧ RefR (Grow S w) w' b room n2 e2 ∧ Chg S w w' ∧ Sl w' (fun k => w.heap.size ≤ k) 1 q outs.length (outs.map Value.string)) := by
  have hl : e.length ≤ 1000000 := by omega
  have hr : ∀ p ∈ e, 0 ≤ p.1 ∧ p.1 ≤ 18446744073709551615 := fun p hp => by have := pe.mem p hp; omega
  have hnx : efind e next = none := pe.none (by omega)
  rcases hst with ⟨rfl, rfl, rfl, rfl, hc⟩ | ⟨rfl, hin, hin2, hf, hfo⟩
  · refine (refTakeOut S w b room _ seq _ s h hl hr r0 r1 n0 (by omega) s0 s1 ?_ ?_).mono ?_
    · rcases hc with hc | hc | hc
      · exact .inl hc
      · exact .inr (.inl hc)
      · exact .inr (.inr hc.2.2)
    · rintro rfl
      rcases hc with hc | hc | hc
      · omega
      · omega
      · rw [hnx] at hc; exact absurd hc.2.2 (by decide)
    rintro x w' ⟨rfl, C⟩
    exact ⟨_, rfl, _, rfl, (h.chg C fun _ _ => id).bound fun k _ h => .inl h, C.mono fun _ _ h => h.elim, Sl.nil _ _ _⟩
  · by_cases hq : seq = next
    · subst hq
      rw [follow_now hnx] at hfo
      obtain ⟨rfl, h2⟩ := Prod.mk.inj hfo
      refine (refTakeNow S w b room seq e s h hl hr r0 r1 n0 n1 hnx pe.kd _ n2 e2 (Prod.ext rfl h2)).mono ?_
      rintro x w' ⟨_, rfl, q, rfl, h1, h2, h3⟩
      exact ⟨_, rfl, q, rfl, h1, h2, h3⟩
    · rw [follow_late hnx (Ne.symm hq)] at hfo
      cases hfo
      refine (refTakeLate S w b room _ seq e s h hl hr r0 r1 n0 (by omega) s0 s1 (by omega) hin2 hf).mono ?_
      rintro x w' ⟨rfl, h1, h2⟩
      exact ⟨_, rfl, _, rfl, h1, h2, Sl.nil _ _ _⟩

theorem Step.keeps {room next seq n2 : Int} {e e2 : Early} {s : ByteArray} {ok : Bool} {outs : List ByteArray} (h : Step room next e seq s ok outs n2 e2) (pe : PE (next + 1) (next + room) e) (r0 : 0 ≤ room) : PE (n2 + 1) (n2 + room) e2 ∧ next ≤ n2 ∧ n2 + e2.length ≤ next + e.length + 1 := by
  rcases h with ⟨rfl, rfl, rfl, rfl, hc⟩ | ⟨rfl, hin, hin2, hf, hfo⟩
  · exact ⟨pe, Int.le_refl _, by omega⟩
  · have := follow_PE (e.length + 1) next (next + room) (e ++ [(seq, s)]) (by simp) ((pe.wide (by omega) (Int.le_refl _)).put hin (by omega) hf)
    rw [hfo] at this
    obtain ⟨h1, h2, h3⟩ := this
    simp only [List.length_append, List.length_cons, List.length_nil] at h2 h3 h1
    exact ⟨h1.wide (Int.le_refl _) (by omega), by omega, by omega⟩
end Go.Proofs.Ytokigldggkkbcaa
