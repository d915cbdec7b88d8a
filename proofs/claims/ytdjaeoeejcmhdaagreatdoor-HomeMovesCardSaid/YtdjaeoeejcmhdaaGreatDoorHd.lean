/- Homes that talk: one page, an access from its first letter to its last one. Plain, no program. No condition. -/
import Derived.Test.YtdjaeoeejcmhdaaGreatDoorHc
set_option linter.unusedVariables false
set_option linter.unusedSimpArgs false
namespace Go.Proofs.YtdjaeoeejcmhdaaGreatDoor
open Go.RowKit Go.RR
theorem dropG_nil (G : Gs) (r : Nat) : dropG G r [] = G := by
  obtain ⟨a, b⟩ := G
  simp [dropG]
theorem gather24 {k : Nat} (hk : k ≤ 16) {G : Gs} {r : Nat} {s : PgS} (hrk : r < k) (c : Nat → Nat) (ho : s.owner = true) (hS : Small16 s.set) (hne : s.set ≠ 0) (hr : s.set.testBit r = false) (hm : ∀ i, s.set.testBit i = true → i < k ∧ (G.st i).owner = false ∧ (G.st i).want = 0 ∧ (G.st i).held = false) :
    Goes24 k (2 * (memb s.set).length) (waitG G r (gatherF r s).1) ((gatherF r s).2.map (poOf c)) (waitG (dropG G r (memb s.set)) r (holdF { s with wait := 0, set := 0 } 2)) [] := by
  have hrL : r ∉ memb s.set := fun e => by rw [memb_iff hS, hr] at e; cases e
  have hl : memb s.set ≠ [] := fun e => hne (set_zero fun j => by
    cases hj : s.set.testBit j with
    | false => rfl
    | true =>
      have := (memb_iff hS).2 hj
      rw [e] at this
      exact absurd this List.not_mem_nil)
  have e1 : (gatherF r s).1 = { s with want := 2, wait := s.set } := by unfold gatherF; rw [if_neg hne]
  have e2 : (gatherF r s).2.map (poOf c) = (memb s.set).map (fgP r) := by
    unfold gatherF
    rw [if_neg hne, nlist_memb, List.map_map, List.map_map]
    rfl
  rw [e1, e2]
  have g1 := forgets24 hrk (G := waitG G r { s with want := 2, wait := s.set }) (r := r) (memb s.set) [] [] (memb_nodup _) fun i hi => by
    have hir : i ≠ r := fun e => hrL (e ▸ hi)
    have es : (waitG G r { s with want := 2, wait := s.set }).st i = G.st i := updG_ne _ _ hir
    rw [es]
    exact hm i ((memb_iff hS).1 hi)
  have d0 : dropG (waitG G r { s with want := 2, wait := s.set }) r [] = waitG G r { s with want := 2, wait := s.set } := dropG_nil _ _
  have d1 : dropG (waitG G r { s with want := 2, wait := s.set }) r ([] ++ memb s.set) = waitG (dropG G r (memb s.set)) r { s with want := 2, wait := s.set } := gs_ext (fun i => by
    show (if i ∈ memb s.set then _ else _) = updG _ r _ i
    by_cases hi : i = r
    · subst hi
      rw [if_neg hrL, updG_at]
      exact updG_at _ _ _
    · rw [updG_ne _ _ hi]
      show (if i ∈ memb s.set then ({ updG G.st r _ i with right := 0, prob := (r : Int) } : PgS) else updG G.st r _ i) = (if i ∈ memb s.set then _ else _)
      rw [updG_ne _ _ hi]) fun i => rfl
  rw [d0, d1, List.append_nil, List.nil_append] at g1
  have g2 := forgots24 hk hrk (G := dropG G r (memb s.set)) (r := r) (s := { s with want := 2 }) ho rfl (memb s.set) s.set s.set hl (memb_nodup _) (fun i hi => (hm i ((memb_iff hS).1 hi)).1) hS hS (fun j => (memb_iff hS).symm) (fun j => (memb_iff hS).symm)
  have := g1.trans g2
  rwa [← Nat.two_mul] at this
/-- The instruction is done that the page was held for. -/
def doneG (G : Gs) (r : Nat) : Gs := waitG G r { G.st r with held := false }
/-- What an access comes to. -/
structure Came24 (k : Nat) (G : Gs) (o : Nat) (r : Nat) (acc : Int) (G' : Gs) (D : Nat) : Prop where
  rest : ∃ o' dist', Rest k (doneG G' r) o' dist' ∧ (∀ i, i < k → dist' i ≤ D) ∧ G'.ct o' = G.ct o ∧ (acc = 2 → o' = r ∧ ∀ i, i < k → i ≠ r → (G'.st i).right = 0)
  right : acc ≤ (G'.st r).right
  same : G'.ct r = G.ct o
theorem rest_small {k : Nat} {G : Gs} {o : Nat} {dist : Nat → Nat} (hk : k ≤ 16) (h : Rest k G o dist) : Small16 (G.st o).set := fun j hj => by have := (h.se j hj).1; omega
theorem done_st (G : Gs) (r i : Nat) : (doneG G r).st i = if i = r then { G.st r with held := false } else G.st i := rfl
theorem pgs_eta {s : PgS} (h : s.held = false) : { s with held := false } = s := by
  obtain ⟨a, b, c, d, e, f, g, i⟩ := s
  dsimp only at h
  subst h
  rfl
/-- Nothing is asked: the right is there. -/
theorem op_have {k : Nat} {G : Gs} {o : Nat} {dist : Nat → Nat} {D : Nat} (h : Rest k G o dist) (hD : ∀ i, i < k → dist i ≤ D) {r : Nat} (hr : r < k) {acc : Int} (hacc : acc = 1 ∨ acc = 2) (ha : acc ≤ (G.st r).right) :
    turnG G r (wantF r (G.st r) acc) noB = (G, []) ∧ Came24 k G o r acc G (D + 3) := by
  have hst : doneG G r = G := gs_ext (fun i => by
    rw [done_st]
    by_cases hi : i = r
    · rw [if_pos hi, hi, pgs_eta (h.fr r hr).1]
    · rw [if_neg hi]) fun i => rfl
  have hw : wantF r (G.st r) acc = ⟨G.st r, false, []⟩ := by unfold wantF; rw [if_pos (.inr (.inr ha))]
  refine ⟨?_, ⟨o, dist, by rw [hst]; exact h, fun i hi => by have := hD i hi; omega, rfl, fun e => ?_⟩, ha, ?_⟩
  · rw [hw]
    refine Prod.ext (gs_ext (fun i => ?_) fun i => rfl) rfl
    show updG G.st r (G.st r) i = G.st i
    by_cases hi : i = r
    · rw [hi, updG_at]
    · rw [updG_ne _ _ hi]
  · have hro : r = o := by
      by_cases hro : r = o
      · exact hro
      · have := (h.rt r hr hro).2.1; omega
    subst hro
    refine ⟨rfl, fun i hi hir => ?_⟩
    have hs0 : (G.st r).set = 0 := by rcases h.ro with h1 | h1 | h1 <;> omega
    have := h.rt i hi hir
    rw [hs0, Nat.zero_testBit] at this
    rcases this.2.1 with h1 | h1
    · exact h1
    · exact absurd (this.2.2.1 h1) (by simp)
  · exact h.ct r hr (by omega)
theorem rest_hold {k : Nat} {G : Gs} {r : Nat} {dist : Nat → Nat} (h : Rest k G r dist) {a : Int} (ha : a = 1 ∨ (a = 2 ∧ (G.st r).set = 0)) : Rest k (doneG (waitG G r (holdF (G.st r) a)) r) r dist := by
  have e : ∀ i, (doneG (waitG G r (holdF (G.st r) a)) r).st i = if i = r then { (G.st r) with right := a, want := 0, held := false } else G.st i := fun i => by
    rw [done_st]
    by_cases hi : i = r
    · rw [if_pos hi, if_pos hi]
      show ({ (updG G.st r (holdF (G.st r) a) r) with held := false } : PgS) = _
      rw [updG_at]
      rfl
    · rw [if_neg hi, if_neg hi]
      exact updG_ne _ _ hi
  have er := (e r).trans (if_pos rfl)
  refine ⟨h.ok, fun i hi => ?_, fun i hi => ?_, fun i hi hr => ?_, ?_, fun i hi => ?_, fun i hi h1 => ?_, h.d0, fun i hi hr => ?_⟩
  · rw [e]
    split
    · rename_i hir; rw [hir]; exact h.ow r h.ok
    · exact h.ow i hi
  · rw [e]
    split
    · obtain ⟨-, -, x3, x4⟩ := h.fr r h.ok
      exact ⟨rfl, rfl, x3, x4⟩
    · exact h.fr i hi
  · rw [e, if_neg hr, er]
    exact h.rt i hi hr
  · rw [er]
    rcases ha with rfl | ⟨rfl, h0⟩
    · exact .inr (.inl rfl)
    · exact .inr (.inr ⟨rfl, h0⟩)
  · rw [er] at hi
    exact h.se i hi
  · rw [e] at h1
    by_cases hir : i = r
    · rw [hir]
    · rw [if_neg hir] at h1
      exact h.ct i hi h1
  · rw [e, if_neg hr]
    exact h.ds i hi hr
/-- One node has the page for itself. -/
theorem rest_sole {k : Nat} {G G' : Gs} {o r : Nat} {dist : Nat → Nat} {D : Nat} (h : Rest k G o dist) (hD : ∀ i, i < k → dist i ≤ D) (hr : r < k) (W : List Nat)
    (hst : (G'.st r).owner = true ∧ (G'.st r).held = false ∧ (G'.st r).want = 0 ∧ (G'.st r).wait = 0 ∧ (G'.st r).forget = -1 ∧ (G'.st r).right = 2 ∧ (G'.st r).set = 0)
    (ho : ∀ i, i < k → i ≠ r → (G'.st i).owner = false ∧ (G'.st i).held = false ∧ (G'.st i).want = 0 ∧ (G'.st i).wait = 0 ∧ (G'.st i).forget = -1 ∧ (G'.st i).right = 0 ∧ (G'.st i).set = 0)
    (hW : ∀ i, i < k → i ≠ r → (i ∈ W ∧ (G'.st i).prob = r) ∨ (i ∉ W ∧ i ≠ o ∧ (G'.st i).prob = (G.st i).prob)) :
    ∃ dist', Rest k G' r dist' ∧ ∀ i, i < k → dist' i ≤ D + 3 := by
  obtain ⟨s1, s2, s3, s4, s5, s6, s7⟩ := hst
  refine ⟨fun i => if i = r then 0 else if i ∈ W then 1 else dist i + 3, ⟨hr, fun i hi => ?_, fun i hi => ?_, fun i hi hir => ?_, .inr (.inr ⟨s6, s7⟩), fun i hi => ?_, fun i hi h1 => ?_, if_pos rfl, fun i hi hir => ?_⟩, fun i hi => ?_⟩
  · by_cases hir : i = r
    · rw [hir, s1, decide_eq_true rfl]
    · rw [(ho i hi hir).1, decide_eq_false hir]
  · by_cases hir : i = r
    · rw [hir]; exact ⟨s2, s3, s4, s5⟩
    · obtain ⟨-, x2, x3, x4, x5, -⟩ := ho i hi hir
      exact ⟨x2, x3, x4, x5⟩
  · obtain ⟨-, -, -, -, -, x6, x7⟩ := ho i hi hir
    refine ⟨x7, .inl x6, fun e => by rw [x6] at e; exact absurd e (by decide), fun e => ?_⟩
    rw [s7, Nat.zero_testBit] at e
    cases e
  · rw [s7, Nat.zero_testBit] at hi
    cases hi
  · by_cases hir : i = r
    · rw [hir]
    · rw [(ho i hi hir).2.2.2.2.2.1] at h1
      exact absurd h1 (by decide)
  · try dsimp only
    rw [if_neg hir]
    rcases hW i hi hir with ⟨w1, w2⟩ | ⟨w1, w2, w3⟩
    · rw [w2, if_pos w1, Int.toNat_natCast, if_pos rfl]
      exact ⟨by omega, by omega, by omega⟩
    · obtain ⟨p0, p1, p2⟩ := h.ds i hi w2
      rw [w3, if_neg w1]
      refine ⟨p0, p1, ?_⟩
      split
      · omega
      · split <;> omega
  · try dsimp only
    have := hD i hi
    split
    · omega
    · split <;> omega
/-- The owner asks. -/
theorem op_own {k : Nat} (hk : k ≤ 16) {G : Gs} {r : Nat} {dist : Nat → Nat} {D : Nat} (h : Rest k G r dist) (hD : ∀ i, i < k → dist i ≤ D) {acc : Int} (hacc : acc = 1 ∨ acc = 2) (ha : ¬ acc ≤ (G.st r).right) :
    ∃ n G', Goes24 k n (turnG G r (wantF r (G.st r) acc) noB).1 (turnG G r (wantF r (G.st r) acc) noB).2 G' [] ∧ n ≤ 32 ∧ Came24 k G r r acc G' (D + 3) := by
  have hr := h.ok
  have how : (G.st r).owner = true := by rw [h.ow r hr]; exact decide_eq_true rfl
  obtain ⟨f1, f2, f3, f4⟩ := h.fr r hr
  have hb : (G.st r).busy = false := by unfold PgS.busy; rw [f1, f2]; rfl
  have hc1 : ¬ ((G.st r).busy = true ∨ (acc ≠ 1 ∧ acc ≠ 2) ∨ acc ≤ (G.st r).right) := by rw [hb]; rintro (e | e | e); cases e; omega; exact ha e
  have hsm := rest_small hk h
  by_cases hs0 : (G.st r).set = 0
  · have hw : wantF r (G.st r) acc = ⟨holdF (G.st r) 2, false, []⟩ := by
      unfold wantF
      rw [if_neg hc1, if_pos ⟨how, .inr hs0⟩]
      unfold gatherF
      rw [if_pos hs0]
    refine ⟨0, waitG G r (holdF (G.st r) 2), by rw [hw]; exact Goes24.refl _ _ _, by omega, ⟨r, dist, rest_hold h (.inr ⟨rfl, hs0⟩), fun i hi => by have := hD i hi; omega, rfl, fun _ => ⟨rfl, fun i hi hir => ?_⟩⟩, ?_, rfl⟩
    · show (updG G.st r _ i).right = 0
      rw [updG_ne _ _ hir]
      obtain ⟨-, x1, x2⟩ := h.rt i hi hir
      rw [hs0, Nat.zero_testBit] at x2
      rcases x1 with x1 | x1
      · exact x1
      · exact absurd (x2.1 x1) (by simp)
    · show acc ≤ (updG G.st r (holdF (G.st r) 2) r).right
      rw [updG_at]
      show acc ≤ 2
      omega
  · rcases hacc with rfl | rfl
    · have hw : wantF r (G.st r) 1 = ⟨holdF (G.st r) 1, false, []⟩ := by
        unfold wantF
        rw [if_neg hc1, if_neg (by rintro ⟨-, e | e⟩; exact absurd e (by decide); exact hs0 e), if_pos how]
      refine ⟨0, waitG G r (holdF (G.st r) 1), by rw [hw]; exact Goes24.refl _ _ _, by omega, ⟨r, dist, rest_hold h (.inl rfl), fun i hi => by have := hD i hi; omega, rfl, fun e => absurd e (by decide)⟩, ?_, rfl⟩
      show (1 : Int) ≤ (updG G.st r (holdF (G.st r) 1) r).right
      rw [updG_at]
      exact Int.le_refl _
    · have hw : wantF r (G.st r) 2 = ⟨(gatherF r (G.st r)).1, false, (gatherF r (G.st r)).2⟩ := by
        unfold wantF
        rw [if_neg hc1, if_pos ⟨how, .inl rfl⟩]
      have hrb : (G.st r).set.testBit r = false := by
        cases e : (G.st r).set.testBit r with
        | false => rfl
        | true => exact absurd rfl (h.se r e).2
      have g := gather24 hk (G := G) (r := r) (s := G.st r) hr (G.ct r) how hsm hs0 hrb fun i hi => by
        obtain ⟨x1, x2⟩ := h.se i hi
        obtain ⟨y1, y2, -, -⟩ := h.fr i x1
        exact ⟨x1, by rw [h.ow i x1]; exact decide_eq_false x2, y2, y1⟩
      have hl := memb_len (G.st r).set
      have est : ∀ i, (doneG (waitG (dropG G r (memb (G.st r).set)) r (holdF { (G.st r) with wait := 0, set := 0 } 2)) r).st i = if i = r then { (G.st r) with wait := 0, set := 0, right := 2, want := 0, held := false } else if i ∈ memb (G.st r).set then { G.st i with right := 0, prob := (r : Int) } else G.st i := fun i => by
        rw [done_st]
        by_cases hi : i = r
        · rw [if_pos hi, if_pos hi]
          show ({ (updG (α := PgS) _ r _ r) with held := false } : PgS) = _
          rw [updG_at]
          rfl
        · rw [if_neg hi, if_neg hi]
          exact updG_ne _ _ hi
      have e0 := (est r).trans (if_pos rfl)
      have hoth : ∀ i, i < k → i ≠ r → (if i ∈ memb (G.st r).set then ({ G.st i with right := 0, prob := (r : Int) } : PgS) else G.st i).right = 0 := fun i hi hir => by
        split
        · rfl
        · rename_i hm
          obtain ⟨-, x1, x2⟩ := h.rt i hi hir
          rcases x1 with x1 | x1
          · exact x1
          · exact absurd ((memb_iff hsm).2 (x2.1 x1)) hm
      obtain ⟨dist', hR, hD'⟩ := rest_sole (G' := doneG (waitG (dropG G r (memb (G.st r).set)) r (holdF { (G.st r) with wait := 0, set := 0 } 2)) r) h hD hr (memb (G.st r).set)
        (by rw [e0]; exact ⟨how, rfl, rfl, rfl, f4, rfl, rfl⟩)
        (fun i hi hir => by
          have x0 := hoth i hi hir
          obtain ⟨y1, y2, y3, y4⟩ := h.fr i hi
          have y5 : (G.st i).owner = false := by rw [h.ow i hi]; exact decide_eq_false hir
          have y6 := (h.rt i hi hir).1
          rw [est, if_neg hir]
          refine ⟨?_, ?_, ?_, ?_, ?_, x0, ?_⟩ <;> (split <;> assumption))
        (fun i hi hir => by
          rw [est, if_neg hir]
          by_cases hm : i ∈ memb (G.st r).set
          · rw [if_pos hm]; exact .inl ⟨hm, rfl⟩
          · rw [if_neg hm]; exact .inr ⟨hm, hir, rfl⟩)
      refine ⟨_, _, by rw [hw]; exact g, by omega, ⟨r, dist', hR, hD', rfl, fun _ => ⟨rfl, fun i hi hir => ?_⟩⟩, ?_, rfl⟩
      · show (updG (α := PgS) _ r _ i).right = 0
        rw [updG_ne _ _ hir]
        exact hoth i hi hir
      · show (2 : Int) ≤ (updG (α := PgS) _ r _ r).right
        rw [updG_at]
        exact Int.le_refl _
end Go.Proofs.YtdjaeoeejcmhdaaGreatDoor
