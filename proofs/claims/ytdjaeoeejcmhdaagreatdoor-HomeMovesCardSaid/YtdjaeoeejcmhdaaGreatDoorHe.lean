/- Homes that talk: one page, an access by a node that doesn't own it. Plain, no program. No condition. Homes that talk: what one act (an access, a store, done) comes to. Plain, no program. No condition. Homes that talk: sets stay small. Plain, no program. No condition. -/
import Derived.Test.YtdjaeoeejcmhdaaGreatDoorHd
import Derived.Test.YtdjaeoeejcmhdaaGreatDoorGb
set_option linter.unusedVariables false
set_option linter.unusedSimpArgs false
namespace Go.Proofs.YtdjaeoeejcmhdaaGreatDoor
open Go.RowKit Go.RR
theorem test_false {s j : Nat} (h : ¬ s.testBit j = true) : s.testBit j = false := by
  cases e : s.testBit j with
  | false => rfl
  | true => exact absurd e h
theorem small_lt {s : Nat} (h : Small16 s) : s < 65536 := by
  by_cases hs : s < 65536
  · exact hs
  · obtain ⟨i, hi, hb⟩ := Nat.exists_ge_and_testBit_of_ge_two_pow (n := 16) (x := s) (by omega)
    have := h i hb
    omega
set_option maxHeartbeats 1000000 in
theorem op_ask {k : Nat} (hk : k ≤ 16) {G : Gs} {o r : Nat} {dist : Nat → Nat} {D : Nat} (h : Rest k G o dist) (hD : ∀ i, i < k → dist i ≤ D) (hr : r < k) (hro : r ≠ o) {acc : Int} (hacc : acc = 1 ∨ acc = 2) (ha : ¬ acc ≤ (G.st r).right) :
    ∃ n G', Goes24 k n (turnG G r (wantF r (G.st r) acc) noB).1 (turnG G r (wantF r (G.st r) acc) noB).2 G' [] ∧ n ≤ D + 40 ∧ Came24 k G o r acc G' (D + 3) := by
  have hok := h.ok
  have hor : o ≠ r := fun e => hro e.symm
  have how : (G.st r).owner = false := by rw [h.ow r hr]; exact decide_eq_false hro
  have hoo : (G.st o).owner = true := by rw [h.ow o hok]; exact decide_eq_true rfl
  obtain ⟨f1, f2, f3, f4⟩ := h.fr r hr
  obtain ⟨g1, g2, g3x, g4⟩ := h.fr o hok
  have hb : (G.st r).busy = false := by unfold PgS.busy; rw [f1, f2]; rfl
  have hc1 : ¬ ((G.st r).busy = true ∨ (acc ≠ 1 ∧ acc ≠ 2) ∨ acc ≤ (G.st r).right) := by rw [hb]; rintro (e | e | e); cases e; omega; exact ha e
  have hsm := rest_small hk h
  obtain ⟨p0, p1, p2⟩ := h.ds r hr hro
  obtain ⟨a, hpa⟩ : ∃ a : Nat, (G.st r).prob = a := ⟨(G.st r).prob.toNat, by omega⟩
  rw [hpa, Int.toNat_natCast] at p2
  rw [hpa] at p0 p1
  have hw : wantF r (G.st r) acc = ⟨{ G.st r with want := acc }, false, [⟨(G.st r).prob, acc, r, 0, 0, false⟩]⟩ := by
    unfold wantF
    rw [if_neg hc1, if_neg (by rw [how]; rintro ⟨e, -⟩; cases e), if_neg (by rw [how]; simp)]
  have ht : turnG G r (wantF r (G.st r) acc) noB = (waitG G r { G.st r with want := acc }, [askP acc r a 0]) := by rw [hw, ← hpa]; rfl
  rw [ht]
  have e1 : ∀ i, i ≠ r → (waitG G r { G.st r with want := acc }).st i = G.st i := fun i hi => updG_ne _ _ hi
  obtain ⟨n, V, h', hh', gc, hn, hnd, hV⟩ := chain24 (k := k) (G := waitG G r { G.st r with want := acc }) (o := o) (r := r) (dist := dist) acc hacc hr (fun i hi hir => by rw [e1 i hir]; unfold PgS.busy; rw [(h.fr i hi).1, (h.fr i hi).2.1]; rfl) (fun i hi hir => by rw [e1 i hir]; exact h.ow i hi) (fun i hi hio hir => by rw [e1 i hir]; exact h.ds i hi hio) (dist a) a [] 0 ⟨by omega, by omega⟩ rfl (by omega) p2 (fun v hv => absurd hv List.not_mem_nil) List.nodup_nil
  have hv0 : visG (waitG G r { G.st r with want := acc }) r [] = waitG G r { G.st r with want := acc } := visG_nil _ _
  rw [hv0] at gc
  have hoV : o ∉ V := fun e => (hV o e).2.1 rfl
  have hrV : r ∉ V := fun e => (hV r e).2.2 rfl
  have hDr := hD r hr
  obtain ⟨G2, hG2⟩ : ∃ X, visG (waitG G r { G.st r with want := acc }) r V = X := ⟨_, rfl⟩
  have s2 : ∀ i, G2.st i = if i = r then { G.st r with want := acc } else if i ∈ V then { G.st i with prob := (r : Int) } else G.st i := fun i => by
    rw [← hG2]
    show (if i ∈ V then ({ updG G.st r _ i with prob := (r : Int) } : PgS) else updG G.st r _ i) = _
    by_cases hi : i = r
    · subst hi
      rw [if_neg hrV, if_pos rfl, updG_at]
    · rw [updG_ne _ _ hi, if_neg hi]
  have c2 : G2.ct = G.ct := by rw [← hG2]; rfl
  rw [hG2] at gc
  have s2r := (s2 r).trans (if_pos rfl)
  have s2o : G2.st o = G.st o := (s2 o).trans (by rw [if_neg hor, if_neg hoV])
  clear hG2 hv0 e1 ht hw
  rcases hacc with rfl | rfl
  · have st1 : stepG G2 (askP 1 r o h') = (waitG G2 o { G.st o with set := naddF (G.st o).set r, right := min (G.st o).right 1 }, [⟨r, ⟨3, o, 0, 0⟩, some (G.ct o)⟩]) := by
      unfold stepG askP turnG
      dsimp only
      rw [Int.toNat_natCast, s2o]
      unfold takeF
      rw [if_pos (.inl rfl)]
      unfold serveF
      rw [if_neg (by rw [hoo]; simp), if_pos rfl, ← c2]
      rfl
    have ok1 : OkP k G2 (askP 1 r o h') := by
      refine ⟨⟨by show (0 : Int) ≤ o; omega, by show (o : Int) < k; omega⟩, ⟨by show (0 : Int) ≤ r; omega, by show (r : Int) < k; omega⟩, hh', ⟨by show (0 : Nat) < 65536; omega, fun _ => rfl⟩, ⟨fun e => (by cases e), fun e => ?_⟩, .inl ⟨.inl rfl, ?_⟩⟩
      · have e : (1 : Int) = 3 ∨ (1 : Int) = 4 := e
        omega
      · show (G2.st (o : Int).toNat).busy = false
        rw [Int.toNat_natCast, s2o]
        unfold PgS.busy
        rw [g1, g2]
        rfl
    obtain ⟨G3, hG3⟩ : ∃ X, waitG G2 o { G.st o with set := naddF (G.st o).set r, right := min (G.st o).right 1 } = X := ⟨_, rfl⟩
    rw [hG3] at st1
    have s3 : ∀ i, G3.st i = if i = o then { G.st o with set := naddF (G.st o).set r, right := min (G.st o).right 1 } else G2.st i := fun i => by rw [← hG3]; rfl
    have c3 : G3.ct = G.ct := by rw [← hG3]; exact c2
    have s3r : G3.st r = { G.st r with want := 1 } := (s3 r).trans (by rw [if_neg hro]; exact s2r)
    have ok2 : OkP k G3 ⟨r, ⟨3, o, 0, 0⟩, some (G.ct o)⟩ := by
      refine ⟨⟨by show (0 : Int) ≤ r; omega, by show (r : Int) < k; omega⟩, ⟨by show (0 : Int) ≤ o; omega, by show (o : Int) < k; omega⟩, ⟨by show (0 : Int) ≤ 0; omega, by show (0 : Int) ≤ 255; omega⟩, ⟨by show (0 : Nat) < 65536; omega, fun e => rfl⟩, ⟨fun _ => .inl rfl, fun _ => rfl⟩, .inr (.inl ⟨rfl, ?_⟩)⟩
      show (G3.st (r : Int).toNat).want = 1 ∧ (G3.st (r : Int).toNat).owner = false
      rw [Int.toNat_natCast, s3r]
      exact ⟨rfl, how⟩
    have st2 : stepG G3 ⟨r, ⟨3, o, 0, 0⟩, some (G.ct o)⟩ = (⟨updG G3.st r { G.st r with want := 0, prob := (o : Int), right := 1, held := true }, updG G.ct r (G.ct o)⟩, []) := by
      unfold stepG turnG
      dsimp only
      rw [Int.toNat_natCast, s3r]
      unfold takeF
      rw [if_neg (by simp), if_pos rfl, if_pos ⟨rfl, how⟩, c3]
      rfl
    have g := (gc.trans (goes_one (l := []) ok1 st1)).trans (goes_one (l := []) ok2 st2)
    obtain ⟨G4, hG4⟩ : ∃ X : Gs, (⟨updG G3.st r { G.st r with want := 0, prob := (o : Int), right := 1, held := true }, updG G.ct r (G.ct o)⟩ : Gs) = X := ⟨_, rfl⟩
    have g' : Goes24 k (n + 1 + 1) (waitG G r { G.st r with want := 1 }) [askP 1 r a 0] G4 [] := by rw [← hG4]; exact g
    have c4 : ∀ i, (doneG G4 r).ct i = if i = r then G.ct o else G.ct i := fun i => by rw [← hG4]; rfl
    have s4 : ∀ i, (doneG G4 r).st i = if i = r then { G.st r with want := 0, prob := (o : Int), right := 1, held := false } else if i = o then { G.st o with set := naddF (G.st o).set r, right := min (G.st o).right 1 } else if i ∈ V then { G.st i with prob := (r : Int) } else G.st i := fun i => by
      rw [done_st]
      by_cases hi : i = r
      · rw [if_pos hi, if_pos hi, ← hG4]
        show ({ updG G3.st r _ r with held := false } : PgS) = _
        rw [updG_at]
      · rw [if_neg hi, if_neg hi, ← hG4]
        show updG G3.st r _ i = _
        rw [updG_ne _ _ hi, s3]
        by_cases hio : i = o
        · rw [if_pos hio, if_pos hio]
        · rw [if_neg hio, if_neg hio, s2, if_neg hi]
    have s4r := (s4 r).trans (if_pos rfl)
    have s4o := (s4 o).trans (by rw [if_neg hor, if_pos rfl])
    have s4x : ∀ i, i ≠ r → i ≠ o → (doneG G4 r).st i = if i ∈ V then { G.st i with prob := (r : Int) } else G.st i := fun i h1 h2 => (s4 i).trans (by rw [if_neg h1, if_neg h2])
    refine ⟨n + 1 + 1, G4, g', by omega, ⟨o, fun i => if i = o then 0 else if i = r then 1 else if i ∈ V then 2 else dist i + 3, ⟨hok, fun i hi => ?_, fun i hi => ?_, fun i hi hio => ?_, ?_, fun i hi => ?_, fun i hi h1 => ?_, if_pos rfl, fun i hi hio => ?_⟩, fun i hi => ?_, ?_, fun e => absurd e (by decide)⟩, ?_, ?_⟩
    · by_cases hir : i = r
      · rw [hir, s4r, decide_eq_false hro]; exact how
      · by_cases hio : i = o
        · rw [hio, s4o, decide_eq_true rfl]; exact hoo
        · rw [s4x i hir hio]
          split <;> exact h.ow i hi
    · by_cases hir : i = r
      · rw [hir, s4r]; exact ⟨rfl, rfl, f3, f4⟩
      · by_cases hio : i = o
        · rw [hio, s4o]; exact ⟨g1, g2, g3x, g4⟩
        · rw [s4x i hir hio]
          split <;> exact h.fr i hi
    · rw [s4o]
      have hrk : r < 16 := by omega
      by_cases hir : i = r
      · rw [hir, s4r]
        refine ⟨(h.rt r hr hro).1, .inr rfl, fun _ => ?_, fun _ => rfl⟩
        rw [nadd_test hrk]
        simp
      · obtain ⟨x1, x2, x3⟩ := h.rt i hi hio
        have e : (naddF (G.st o).set r).testBit i = (G.st o).set.testBit i := by
          rw [nadd_test hrk, decide_eq_false (fun e => hir e.symm), Bool.or_false]
        rw [s4x i hir hio, e]
        split <;> exact ⟨x1, x2, x3⟩
    · rw [s4o]
      show min (G.st o).right 1 = 0 ∨ min (G.st o).right 1 = 1 ∨ _
      rcases h.ro with h1 | h1 | ⟨h1, -⟩ <;> rw [h1]
      · exact .inl (by decide)
      · exact .inr (.inl (by decide))
      · exact .inr (.inl (by decide))
    · rw [s4o] at hi
      rw [nadd_test (by omega), Bool.or_eq_true, decide_eq_true_eq] at hi
      rcases hi with hi | rfl
      · exact h.se i hi
      · exact ⟨hr, hro⟩
    · rw [c4, c4, if_neg hor]
      by_cases hir : i = r
      · rw [if_pos hir]
      · rw [if_neg hir]
        by_cases hio : i = o
        · rw [hio]
        · refine h.ct i hi ?_
          rw [s4x i hir hio] at h1
          revert h1
          split <;> exact id
    · try dsimp only
      rw [if_neg hio]
      by_cases hir : i = r
      · subst hir
        rw [s4r, if_pos rfl]
        dsimp only
        rw [Int.toNat_natCast, if_pos rfl]
        exact ⟨by omega, by omega, by omega⟩
      · rw [if_neg hir, s4x i hir hio]
        by_cases hiV : i ∈ V
        · rw [if_pos hiV, if_pos hiV]
          dsimp only
          rw [Int.toNat_natCast, if_neg hro, if_pos rfl]
          exact ⟨by omega, by omega, by omega⟩
        · obtain ⟨q0, q1, q2⟩ := h.ds i hi hio
          rw [if_neg hiV, if_neg hiV]
          refine ⟨q0, q1, ?_⟩
          split
          · omega
          · split
            · omega
            · split <;> omega
    · dsimp only
      have := hD i hi
      split
      · omega
      · split
        · omega
        · split <;> omega
    · have : G4.ct o = (doneG G4 r).ct o := rfl
      rw [this, c4, if_neg hor]
    · rw [← hG4]
      show (1 : Int) ≤ (updG G3.st r _ r).right
      rw [updG_at]
      exact Int.le_refl _
    · have : G4.ct r = (doneG G4 r).ct r := rfl
      rw [this, c4, if_pos rfl]
  · have st1 : stepG G2 (askP 2 r o h') = (waitG G2 o { G.st o with owner := false, set := 0, right := 0, prob := (r : Int) }, [⟨r, ⟨4, o, 0, ndropF (G.st o).set r⟩, some (G.ct o)⟩]) := by
      unfold stepG askP turnG
      dsimp only
      rw [Int.toNat_natCast, s2o]
      unfold takeF
      rw [if_pos (.inr rfl)]
      unfold serveF
      rw [if_neg (by rw [hoo]; simp), if_neg (by simp), ← c2]
      rfl
    have ok1 : OkP k G2 (askP 2 r o h') := by
      refine ⟨⟨by show (0 : Int) ≤ o; omega, by show (o : Int) < k; omega⟩, ⟨by show (0 : Int) ≤ r; omega, by show (r : Int) < k; omega⟩, hh', ⟨by show (0 : Nat) < 65536; omega, fun _ => rfl⟩, ⟨fun e => (by cases e), fun e => ?_⟩, .inl ⟨.inr rfl, ?_⟩⟩
      · have e : (2 : Int) = 3 ∨ (2 : Int) = 4 := e
        omega
      · show (G2.st (o : Int).toNat).busy = false
        rw [Int.toNat_natCast, s2o]
        unfold PgS.busy
        rw [g1, g2]
        rfl
    obtain ⟨G3, hG3⟩ : ∃ X, waitG G2 o { G.st o with owner := false, set := 0, right := 0, prob := (r : Int) } = X := ⟨_, rfl⟩
    rw [hG3] at st1
    have s3 : ∀ i, G3.st i = if i = o then { G.st o with owner := false, set := 0, right := 0, prob := (r : Int) } else G2.st i := fun i => by rw [← hG3]; rfl
    have c3 : G3.ct = G.ct := by rw [← hG3]; exact c2
    have s3r : G3.st r = { G.st r with want := 2 } := (s3 r).trans (by rw [if_neg hro]; exact s2r)
    obtain ⟨S, hS⟩ : ∃ S, ndropF (ndropF (G.st o).set r) r = S := ⟨_, rfl⟩
    have hrk : r < 16 := by omega
    have tS : ∀ j, S.testBit j = true ↔ (G.st o).set.testBit j = true ∧ j ≠ r := fun j => by
      have q1 : Small16 (ndropF (G.st o).set r) := fun i hi => by
        rw [ndrop_test hsm hrk, Bool.and_eq_true] at hi
        exact hsm i hi.1
      rw [← hS, ndrop_test q1 hrk, ndrop_test hsm hrk]
      simp only [Bool.and_eq_true, Bool.not_eq_true', decide_eq_false_iff_not]
      constructor
      · rintro ⟨⟨x1, x2⟩, -⟩; exact ⟨x1, fun e => x2 e.symm⟩
      · rintro ⟨x1, x2⟩; exact ⟨⟨x1, fun e => x2 e.symm⟩, fun e => x2 e.symm⟩
    have sS : Small16 S := fun j hj => hsm j ((tS j).1 hj).1
    obtain ⟨s', hs'⟩ : ∃ s' : PgS, { G.st r with want := 2, owner := true, prob := (r : Int), set := S } = s' := ⟨_, rfl⟩
    obtain ⟨GX, hGX⟩ : ∃ X : Gs, (⟨G3.st, updG G.ct r (G.ct o)⟩ : Gs) = X := ⟨_, rfl⟩
    have ok2 : OkP k G3 ⟨r, ⟨4, o, 0, ndropF (G.st o).set r⟩, some (G.ct o)⟩ := by
      refine ⟨⟨by show (0 : Int) ≤ r; omega, by show (r : Int) < k; omega⟩, ⟨by show (0 : Int) ≤ o; omega, by show (o : Int) < k; omega⟩, ⟨by show (0 : Int) ≤ 0; omega, by show (0 : Int) ≤ 255; omega⟩, ⟨by show ndropF (G.st o).set r < 65536; exact small_lt fun j hj => by rw [ndrop_test hsm (by omega), Bool.and_eq_true] at hj; exact hsm j hj.1, fun e => absurd rfl e⟩, ⟨fun _ => .inr rfl, fun _ => rfl⟩, .inr (.inr (.inl ⟨rfl, ?_⟩))⟩
      show (G3.st (r : Int).toNat).want = 2 ∧ (G3.st (r : Int).toNat).owner = false
      rw [Int.toNat_natCast, s3r]
      exact ⟨rfl, how⟩
    have st2 : stepG G3 ⟨r, ⟨4, o, 0, ndropF (G.st o).set r⟩, some (G.ct o)⟩ = (waitG GX r (gatherF r s').1, (gatherF r s').2.map (poOf (G.ct o))) := by
      unfold stepG turnG
      dsimp only
      rw [Int.toNat_natCast, s3r]
      unfold takeF
      rw [if_neg (by simp), if_neg (by simp), if_pos rfl, if_pos ⟨rfl, how⟩, c3, ← hGX, ← hs', ← hS]
      rfl
    have sx : ∀ i, GX.st i = G3.st i := fun i => by rw [← hGX]
    have cx : GX.ct = updG G.ct r (G.ct o) := by rw [← hGX]
    have so' : s'.owner = true := by rw [← hs']
    have ss' : s'.set = S := by rw [← hs']
    have g3 : ∃ m, m ≤ 32 ∧ Goes24 k m (waitG GX r (gatherF r s').1) ((gatherF r s').2.map (poOf (G.ct o))) (waitG (dropG GX r (memb S)) r (holdF { s' with wait := 0, set := 0 } 2)) [] := by
      by_cases h0 : S = 0
      · refine ⟨0, by omega, ?_⟩
        have m0 : memb S = [] := by rw [h0]; rfl
        have gg : gatherF r s' = (holdF s' 2, []) := by unfold gatherF; rw [ss', if_pos h0]
        have hh : holdF { s' with wait := 0, set := 0 } 2 = holdF s' 2 := by rw [← hs', h0, ← f3]
        rw [gg, m0, hh, dropG_nil]
        exact Goes24.refl _ _ _
      · have hrb : s'.set.testBit r = false := by rw [ss']; exact test_false fun e => ((tS r).1 e).2 rfl
        have g := gather24 hk (G := GX) (r := r) (s := s') hr (G.ct o) so' (by rw [ss']; exact sS) (by rw [ss']; exact h0) hrb fun i hi => by
          rw [ss'] at hi
          obtain ⟨x1, x2⟩ := (tS i).1 hi
          obtain ⟨y1, y2⟩ := h.se i x1
          obtain ⟨z1, z2, -, -⟩ := h.fr i y1
          have z3 : (G.st i).owner = false := by rw [h.ow i y1]; exact decide_eq_false y2
          rw [sx, s3, if_neg y2, s2, if_neg x2]
          split <;> exact ⟨y1, z3, z2, z1⟩
        rw [ss'] at g
        have := memb_len S
        exact ⟨_, by omega, g⟩
    obtain ⟨m, hm, g3⟩ := g3
    have g := ((gc.trans (goes_one (l := []) ok1 st1)).trans (goes_one (l := []) ok2 st2)).trans g3
    obtain ⟨G4, hG4⟩ : ∃ X, waitG (dropG GX r (memb S)) r (holdF { s' with wait := 0, set := 0 } 2) = X := ⟨_, rfl⟩
    rw [hG4] at g
    have c4 : ∀ i, (doneG G4 r).ct i = if i = r then G.ct o else G.ct i := fun i => by
      rw [← hG4]
      show GX.ct i = _
      rw [cx]
      rfl
    have s4 : ∀ i, (doneG G4 r).st i = if i = r then { G.st r with want := 0, wait := 0, owner := true, prob := (r : Int), set := 0, right := 2, held := false } else if i ∈ memb S then { (GX.st i) with right := 0, prob := (r : Int) } else GX.st i := fun i => by
      rw [done_st]
      by_cases hi : i = r
      · rw [if_pos hi, if_pos hi, ← hG4]
        show ({ (updG (α := PgS) _ r _ r) with held := false } : PgS) = _
        rw [updG_at, ← hs']
        rfl
      · rw [if_neg hi, if_neg hi, ← hG4]
        exact updG_ne _ _ hi
    have s4r := (s4 r).trans (if_pos rfl)
    have xo : ∀ i, i ≠ r → GX.st i = if i = o then { G.st o with owner := false, set := 0, right := 0, prob := (r : Int) } else if i ∈ V then { G.st i with prob := (r : Int) } else G.st i := fun i hi => by rw [sx, s3, s2, if_neg hi]
    have hrt : ∀ i, i < k → i ≠ r → ((doneG G4 r).st i).right = 0 := fun i hi hir => by
      rw [s4, if_neg hir]
      by_cases hiS : i ∈ memb S
      · rw [if_pos hiS]
      · rw [if_neg hiS, xo i hir]
        by_cases hio : i = o
        · rw [if_pos hio]
        · have hb : ¬ (G.st o).set.testBit i = true := fun e => hiS ((memb_iff sS).2 ((tS i).2 ⟨e, hir⟩))
          obtain ⟨-, x1, x2⟩ := h.rt i hi hio
          have x0 : (G.st i).right = 0 := by
            rcases x1 with x1 | x1
            · exact x1
            · exact absurd (x2.1 x1) hb
          rw [if_neg hio]
          split <;> exact x0
    obtain ⟨dist', hR, hD'⟩ := rest_sole (G' := doneG G4 r) h hD hr (o :: V ++ memb S)
      (by rw [s4r]; exact ⟨rfl, rfl, rfl, rfl, f4, rfl, rfl⟩)
      (fun i hi hir => by
        have x0 := hrt i hi hir
        have y : (GX.st i).owner = false ∧ (GX.st i).held = false ∧ (GX.st i).want = 0 ∧ (GX.st i).wait = 0 ∧ (GX.st i).forget = -1 ∧ (GX.st i).set = 0 := by
          rw [xo i hir]
          by_cases hio : i = o
          · rw [if_pos hio]; exact ⟨rfl, g1, g2, g3x, g4, rfl⟩
          · obtain ⟨z1, z2, z3, z4⟩ := h.fr i hi
            have z5 : (G.st i).owner = false := by rw [h.ow i hi]; exact decide_eq_false hio
            have z6 := (h.rt i hi hio).1
            rw [if_neg hio]
            split <;> exact ⟨z5, z1, z2, z3, z4, z6⟩
        obtain ⟨y1, y2, y3, y4, y5, y6⟩ := y
        have e := s4 i
        rw [if_neg hir] at e
        refine ⟨?_, ?_, ?_, ?_, ?_, x0, ?_⟩ <;> (rw [e]; split <;> assumption))
      (fun i hi hir => by
        rw [s4, if_neg hir]
        by_cases hiS : i ∈ memb S
        · rw [if_pos hiS]
          exact .inl ⟨List.mem_append_right _ hiS, rfl⟩
        · rw [if_neg hiS, xo i hir]
          by_cases hio : i = o
          · rw [if_pos hio]; exact .inl ⟨List.mem_append_left _ (by rw [hio]; exact List.mem_cons_self), rfl⟩
          · rw [if_neg hio]
            by_cases hiV : i ∈ V
            · rw [if_pos hiV]; exact .inl ⟨List.mem_append_left _ (List.mem_cons_of_mem _ hiV), rfl⟩
            · rw [if_neg hiV]
              refine .inr ⟨fun e => ?_, hio, rfl⟩
              rcases List.mem_append.1 e with e | e
              · rcases List.mem_cons.1 e with e | e
                · exact hio e
                · exact hiV e
              · exact hiS e)
    have cr : G4.ct r = G.ct o := by
      have : G4.ct r = (doneG G4 r).ct r := rfl
      rw [this, c4, if_pos rfl]
    have rr : (G4.st r).right = 2 := by
      rw [← hG4]
      show (updG (α := PgS) _ r _ r).right = 2
      rw [updG_at]
      rfl
    refine ⟨n + 1 + 1 + m, G4, g, by omega, ⟨r, dist', hR, hD', cr, fun _ => ⟨rfl, fun i hi hir => ?_⟩⟩, by rw [rr]; exact Int.le_refl _, cr⟩
    have := hrt i hi hir
    rw [done_st, if_neg hir] at this
    exact this
theorem op_any {k : Nat} (hk : k ≤ 16) {G : Gs} {o r : Nat} {dist : Nat → Nat} {D : Nat} (h : Rest k G o dist) (hD : ∀ i, i < k → dist i ≤ D) (hr : r < k) {acc : Int} (hacc : acc = 1 ∨ acc = 2) :
    ∃ n G', Goes24 k n (turnG G r (wantF r (G.st r) acc) noB).1 (turnG G r (wantF r (G.st r) acc) noB).2 G' [] ∧ n ≤ D + 40 ∧ Came24 k G o r acc G' (D + 3) := by
  by_cases ha : acc ≤ (G.st r).right
  · obtain ⟨e, c⟩ := op_have h hD hr hacc ha
    exact ⟨0, G, by rw [e]; exact Goes24.refl _ _ _, by omega, c⟩
  · by_cases hro : r = o
    · subst hro
      obtain ⟨n, G', g, hn, c⟩ := op_own hk h hD hacc ha
      exact ⟨n, G', g, by omega, c⟩
    · exact op_ask hk h hD hr hro hacc ha
end Go.Proofs.YtdjaeoeejcmhdaaGreatDoor
set_option linter.unusedVariables false
set_option linter.unusedSimpArgs false
namespace Go.Proofs.YtdjaeoeejcmhdaaGreatDoor
open Go.RowKit Go.RR
/-- The one who may write has laid other bytes. -/
theorem rest_store {k : Nat} {G : Gs} {r : Nat} {dist : Nat → Nat} (h : Rest k G r dist) (ho : ∀ i, i < k → i ≠ r → (G.st i).right = 0) (c : Nat → Nat) : Rest k ⟨G.st, updG G.ct r c⟩ r dist := by
  refine ⟨h.ok, h.ow, h.fr, h.rt, h.ro, h.se, fun i hi h1 => ?_, h.d0, h.ds⟩
  have h1 : 1 ≤ (G.st i).right := h1
  by_cases hir : i = r
  · rw [hir]
  · rw [ho i hi hir] at h1
    exact absurd h1 (by decide)
theorem done_right (G : Gs) (r i : Nat) : ((doneG G r).st i).right = (G.st i).right := by
  rw [done_st]
  split
  · rename_i h; rw [h]
  · rfl
/-- What an instruction that is done comes to: nothing is said. -/
theorem done_turn {k : Nat} {G : Gs} {o r : Nat} {acc : Int} {G' : Gs} {D : Nat} (h : Came24 k G o r acc G' D) (hr : r < k) (c : Nat → Nat → Nat) (d : Nat → Nat) :
    (G'.st r).forget = -1 ∧ turnG ⟨G'.st, c⟩ r (doneF r (G'.st r)) d = (⟨(doneG G' r).st, c⟩, []) := by
  obtain ⟨o', dist', hR, -⟩ := h.rest
  have hf := (hR.fr r hr).2.2.2
  rw [done_st, if_pos rfl] at hf
  have hf : (G'.st r).forget = -1 := hf
  refine ⟨hf, ?_⟩
  have e : doneF r (G'.st r) = ⟨{ G'.st r with held := false }, false, []⟩ := by
    unfold doneF
    by_cases hh : (G'.st r).held = false
    · rw [if_pos hh, pgs_eta hh]
    · rw [if_neg hh, if_neg (by rw [hf]; decide)]
  rw [e]
  refine Prod.ext (gs_ext (fun i => ?_) fun i => rfl) rfl
  show updG G'.st r _ i = (doneG G' r).st i
  rw [done_st]
  by_cases hi : i = r
  · rw [hi, updG_at, if_pos rfl]
  · rw [updG_ne _ _ hi, if_neg hi]
/-- A page between two acts, and what its words are. -/
def Pg24 (k : Nat) (G : Gs) (hv : Nat → Nat) (D : Nat) : Prop := ∃ o dist, Rest k G o dist ∧ (∀ i, i < k → dist i ≤ D) ∧ (∀ j, j < 3 → getW (G.ct o) (8 * j) 8 = hv j)
/-- Behind the messages of an access: what is loaded or stored, and the page when it is done. -/
theorem act24 {k : Nat} {G : Gs} {hv : Nat → Nat} {D : Nat} (hk : k ≤ 16) (h : Pg24 k G hv D) {r : Nat} (hr : r < k) {acc : Int} (hacc : acc = 1 ∨ acc = 2) :
    ∃ n G', Goes24 k n (turnG G r (wantF r (G.st r) acc) noB).1 (turnG G r (wantF r (G.st r) acc) noB).2 G' [] ∧ n ≤ D + 40 ∧ acc ≤ (G'.st r).right ∧ (G'.st r).forget = -1 ∧
      (∀ c d, turnG ⟨G'.st, c⟩ r (doneF r (G'.st r)) d = (⟨(doneG G' r).st, c⟩, [])) ∧
      (∀ j, j < 3 → getW (G'.ct r) (8 * j) 8 = hv j) ∧ Pg24 k (doneG G' r) hv (D + 3) ∧
      (acc = 2 → ∀ j x, j < 3 → x < 18446744073709551616 → Pg24 k ⟨(doneG G' r).st, updG G'.ct r (putW (G'.ct r) (8 * j) 8 x)⟩ (updG hv j x) (D + 3)) := by
  obtain ⟨o, dist, hR, hD, hg⟩ := h
  obtain ⟨n, G', hG, hn, C⟩ := op_any hk hR hD hr hacc
  have hdn := fun c d => (done_turn C hr c d).2
  have hfo := (done_turn C hr G'.ct noB).1
  have hsame := C.same
  obtain ⟨o', dist', hR', hD', hct, h2⟩ := C.rest
  refine ⟨n, G', hG, hn, C.right, hfo, hdn, fun j hj => by rw [hsame]; exact hg j hj, ⟨o', dist', hR', hD', fun j hj => ?_⟩, fun e j x hj hx => ?_⟩
  · show getW (G'.ct o') (8 * j) 8 = hv j
    rw [hct]; exact hg j hj
  · obtain ⟨rfl, hz⟩ := h2 e
    refine ⟨o', dist', rest_store hR' (fun i hi hir => by rw [done_right]; exact hz i hi hir) _, hD', fun i hi => ?_⟩
    show getW (updG G'.ct o' (putW (G'.ct o') (8 * j) 8 x) o') (8 * i) 8 = updG hv j x i
    rw [updG_at]
    by_cases hij : i = j
    · rw [hij, updG_at, getW_put]
      exact Nat.mod_eq_of_lt hx
    · rw [updG_ne _ _ hij]
      have e := getW_put_ne (G'.ct o') (a := 8 * j) (n := 8) (v := x) (b := 8 * i) (m := 8) (by omega)
      rw [e, hsame]
      exact hg i hi
end Go.Proofs.YtdjaeoeejcmhdaaGreatDoor
set_option linter.unusedVariables false
set_option linter.unusedSimpArgs false
namespace Go.Proofs.YtdjaeoeejcmhdaaGreatDoor
open Go.RowKit Go.RR
def Sm (s : PgS) : Prop := s.set < 32 ∧ s.wait < 32
theorem ndrop_sm {s : Nat} (n : Int) (h : s < 32) : ndropF s n < 32 := Nat.lt_of_le_of_lt Nat.and_le_left h
theorem nadd_sm {s : Nat} {n : Int} (h : s < 32) (h0 : 0 ≤ n) (h5 : n < 5) : naddF s n < 32 := by
  unfold naddF nbitF
  rw [if_pos ⟨h0, by omega⟩]
  exact Nat.or_lt_two_pow (n := 5) h (Nat.pow_lt_pow_right (by decide) (by omega))
theorem gather_sm {me : Int} {s : PgS} (h : Sm s) : Sm (gatherF me s).1 ∧ ∀ l ∈ (gatherF me s).2, l.set < 32 := by
  unfold gatherF
  split
  · exact ⟨h, fun l hl => absurd hl List.not_mem_nil⟩
  · refine ⟨⟨h.1, h.1⟩, fun l hl => ?_⟩
    obtain ⟨n, -, rfl⟩ := List.mem_map.1 hl
    show 0 < 32
    decide
theorem want_sm {me : Int} {s : PgS} {r : Int} (h : Sm s) : Sm (wantF me s r).s ∧ ∀ l ∈ (wantF me s r).l, l.set < 32 := by
  unfold wantF
  split
  · exact ⟨h, fun l hl => absurd hl List.not_mem_nil⟩
  · split
    · exact gather_sm h
    · split
      · exact ⟨h, fun l hl => absurd hl List.not_mem_nil⟩
      · refine ⟨h, fun l hl => ?_⟩
        rw [List.mem_singleton] at hl
        subst hl
        show 0 < 32
        decide
theorem take_sm {me : Int} {s : PgS} {m : Mg} (h : Sm s) (hm : m.set < 32) (h0 : 0 ≤ m.node) (h5 : m.node < 5) : Sm (takeF me s m).s ∧ ∀ l ∈ (takeF me s m).l, l.set < 32 := by
  have nil : ∀ l ∈ ([] : List Lt), l.set < 32 := fun l hl => absurd hl List.not_mem_nil
  have one : ∀ x : Lt, x.set < 32 → ∀ l ∈ [x], l.set < 32 := fun x hx l hl => by rw [List.mem_singleton] at hl; rw [hl]; exact hx
  unfold takeF
  split
  · unfold serveF
    split
    · exact ⟨h, one _ hm⟩
    · split
      · exact ⟨⟨nadd_sm h.1 h0 h5, h.2⟩, one _ (by show 0 < 32; decide)⟩
      · exact ⟨⟨by show 0 < 32; decide, h.2⟩, one _ (ndrop_sm _ h.1)⟩
  · split
    · split
      · exact ⟨h, nil⟩
      · exact ⟨h, nil⟩
    · split
      · split
        · exact gather_sm (s := { s with owner := true, prob := me, set := ndropF m.set me }) ⟨ndrop_sm _ hm, h.2⟩
        · exact ⟨h, nil⟩
      · split
        · split
          · exact ⟨h, nil⟩
          · split
            · exact ⟨h, nil⟩
            · exact ⟨h, one _ (by show 0 < 32; decide)⟩
        · split
          · split
            · exact ⟨h, nil⟩
            · split
              · exact ⟨⟨ndrop_sm _ h.1, by show 0 < 32; decide⟩, nil⟩
              · exact ⟨⟨ndrop_sm _ h.1, ndrop_sm _ h.2⟩, nil⟩
          · exact ⟨h, nil⟩
/-- All sets of a page and of what is on its way. -/
def SmG (k : Nat) (G : Gs) (l : List Po) : Prop := (∀ i, i < k → Sm (G.st i)) ∧ ∀ p ∈ l, p.m.set < 32
theorem turn_sm {k : Nat} {G : Gs} {i : Nat} {t : Trn} {d : Nat → Nat} {q : List Po} (h : SmG k G q) (ht : Sm t.s ∧ ∀ l ∈ t.l, l.set < 32) : SmG k (turnG G i t d).1 (q ++ (turnG G i t d).2) := by
  refine ⟨fun j hj => ?_, fun p hp => ?_⟩
  · show Sm (updG G.st i t.s j)
    unfold updG
    split
    · exact ht.1
    · exact h.1 j hj
  · rcases List.mem_append.1 hp with hp | hp
    · exact h.2 p hp
    · obtain ⟨l, hl, rfl⟩ := List.mem_map.1 hp
      exact ht.2 l hl
theorem step_sm {k : Nat} (hk : k ≤ 5) {G : Gs} {p : Po} {l : List Po} (h : SmG k G (p :: l)) (ok : OkP k G p) : SmG k (stepG G p).1 (l ++ (stepG G p).2) := by
  have hd := ok.dst
  have hn := ok.node
  exact turn_sm ⟨h.1, fun q hq => h.2 q (List.mem_cons_of_mem _ hq)⟩ (take_sm (h.1 _ (by omega)) (h.2 p List.mem_cons_self) hn.1 (by omega))
end Go.Proofs.YtdjaeoeejcmhdaaGreatDoor
