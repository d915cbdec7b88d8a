/- Marks on places, and what may be come to: by a walk in depth, and by rounds. No program in sight. -/
set_option linter.unusedVariables false
set_option linter.unusedSimpArgs false
set_option linter.unusedSectionVars false
namespace Go.RR

/-- Is a place marked? -/
def mk (s : List Bool) (p : Nat) : Bool := s.getD p false
theorem mk_set {s : List Bool} {p q : Nat} (hp : p < s.length) : mk (s.set p true) q = (decide (q = p) || mk s q) := by
  unfold mk
  simp only [List.getD_eq_getElem?_getD, List.getElem?_set]
  by_cases h : p = q
  · subst h; simp [hp]
  · have : ¬ q = p := fun e => h e.symm
    simp [h, this]
theorem mk_out {s : List Bool} {p : Nat} (h : s.length ≤ p) : mk s p = false := by
  unfold mk
  rw [List.getD_eq_getElem?_getD, List.getElem?_eq_none h]; rfl
theorem mk_lt {s : List Bool} {p : Nat} (h : mk s p = true) : p < s.length := by
  by_cases hp : p < s.length
  · exact hp
  · rw [mk_out (by omega)] at h; cases h
theorem mk_at {s : List Bool} {p : Nat} {b : Bool} (h : s[p]? = some b) : mk s p = b := by
  unfold mk
  rw [List.getD_eq_getElem?_getD, h]; rfl
theorem mk_none (N p : Nat) : mk (List.replicate N false) p = false := by
  unfold mk
  rw [List.getD_eq_getElem?_getD, List.getElem?_replicate]
  split <;> rfl
/-- t has all marks of s. -/
def Le (s t : List Bool) : Prop := s.length = t.length ∧ ∀ p, mk s p = true → mk t p = true
theorem Le.refl (s : List Bool) : Le s s := ⟨rfl, fun _ h => h⟩
theorem Le.trans {s t u : List Bool} (h : Le s t) (k : Le t u) : Le s u := ⟨h.1.trans k.1, fun p hp => k.2 p (h.2 p hp)⟩
theorem Le.set {s : List Bool} {p : Nat} (hp : p < s.length) : Le s (s.set p true) := ⟨by simp, fun q hq => by rw [mk_set hp, hq]; simp⟩

theorem count_le : ∀ {s t : List Bool}, Le s t → s.count true ≤ t.count true
  | [], [], _ => Nat.le_refl _
  | [], _ :: _, h => by have := h.1; simp at this
  | _ :: _, [], h => by have := h.1; simp at this
  | a :: s, b :: t, h => by
    have ih : s.count true ≤ t.count true := count_le ⟨by have := h.1; simpa using this, fun p hp => by have := h.2 (p + 1) (by simpa [mk] using hp); simpa [mk] using this⟩
    have h0 := h.2 0
    simp only [mk, List.getD_cons_zero] at h0
    cases a <;> cases b <;> simp_all <;> omega
theorem count_lt : ∀ {s t : List Bool}, Le s t → ∀ p, mk s p = false → mk t p = true → s.count true + 1 ≤ t.count true
  | [], [], _, p, _, h => by simp [mk] at h
  | [], _ :: _, h, _, _, _ => by have := h.1; simp at this
  | _ :: _, [], h, _, _, _ => by have := h.1; simp at this
  | a :: s, b :: t, h, p, hs, ht => by
    have hl : Le s t := ⟨by have := h.1; simpa using this, fun p hp => by have := h.2 (p + 1) (by simpa [mk] using hp); simpa [mk] using this⟩
    have h0 := h.2 0
    simp only [mk, List.getD_cons_zero] at h0
    cases p with
    | zero =>
      simp only [mk, List.getD_cons_zero] at hs ht
      subst hs ht
      have := count_le hl
      simp; omega
    | succ p =>
      have ih := count_lt hl p (by simpa [mk] using hs) (by simpa [mk] using ht)
      cases a <;> cases b <;> simp_all <;> omega
theorem count_max (s : List Bool) : s.count true ≤ s.length := List.count_le_length
theorem count_all : ∀ {s : List Bool}, s.length ≤ s.count true → ∀ p, p < s.length → mk s p = true
  | [], _, p, h => by simp at h
  | a :: s, h, p, hp => by
    have hm := count_max s
    cases a
    · simp at h; omega
    · cases p with
      | zero => rfl
      | succ p =>
        have := count_all (s := s) (by simpa using h) p (by simpa using hp)
        simpa [mk] using this
theorem count_set {s : List Bool} {p : Nat} (hp : p < s.length) (h : mk s p = false) : s.count true + 1 ≤ (s.set p true).count true :=
  count_lt (Le.set hp) p h (by rw [mk_set hp]; simp)

/-- What may be come to from S, by going on from places below N. -/
inductive Reach (nx : Nat → List Nat) (N : Nat) (S : List Nat) : Nat → Prop
  | start {p : Nat} : p ∈ S → Reach nx N S p
  | step {p n : Nat} : Reach nx N S p → p < N → n ∈ nx p → Reach nx N S n
theorem Reach.trans {nx : Nat → List Nat} {N : Nat} {S : List Nat} {p q : Nat} (h : Reach nx N S p) (k : Reach nx N [p] q) : Reach nx N S q := by
  induction k with
  | start h1 => simp at h1; subst h1; exact h
  | step _ h2 h3 ih => exact .step ih h2 h3
theorem Reach.closed {nx : Nat → List Nat} {N : Nat} {S : List Nat} {Q : Nat → Prop} (h0 : ∀ p ∈ S, Q p) (h1 : ∀ p, Q p → p < N → ∀ n ∈ nx p, Q n) {p : Nat} (h : Reach nx N S p) : Q p := by
  induction h with
  | start h => exact h0 _ h
  | step _ h2 h3 ih => exact h1 _ ih h2 _ h3
theorem Reach.cut {nx : Nat → List Nat} {N : Nat} {S : List Nat} {p : Nat} (h : Reach nx N S p) : ∃ s ∈ S, Reach nx N [s] p := by
  induction h with
  | start h => exact ⟨_, h, .start (List.mem_singleton.2 rfl)⟩
  | step _ h2 h3 ih => obtain ⟨s, hs, hr⟩ := ih; exact ⟨s, hs, .step hr h2 h3⟩

section
variable (nx : Nat → List Nat) (N : Nat)
def markL (s : List Bool) (ns : List Nat) : List Bool := ns.foldl (fun s n => s.set n true) s
def oneF (s : List Bool) (p : Nat) : List Bool := if mk s p = true then markL s (nx p) else s
def roundF (s : List Bool) : List Bool := (List.range N).foldl (oneF nx) s
def roundsF : Nat → List Bool → List Bool
  | 0, s => s
  | k + 1, s => roundF nx N (roundsF k s)
/-- What may be come to from S, by so many rounds. -/
def fromF (S : List Nat) : List Bool := roundsF nx N N (markL (List.replicate (N + 1) false) S)
end

theorem markL_len : ∀ (ns : List Nat) (s : List Bool), (markL s ns).length = s.length
  | [], s => rfl
  | n :: ns, s => by
    show (markL (s.set n true) ns).length = _
    rw [markL_len ns]; simp
theorem markL_mk : ∀ (ns : List Nat) (s : List Bool) (q : Nat), (∀ n ∈ ns, n < s.length) → mk (markL s ns) q = (decide (q ∈ ns) || mk s q)
  | [], s, q, _ => by simp [markL]
  | n :: ns, s, q, h => by
    show mk (markL (s.set n true) ns) q = _
    rw [markL_mk ns _ q (fun m hm => by rw [List.length_set]; exact h m (List.mem_cons_of_mem _ hm)), mk_set (h n (List.mem_cons_self ..))]
    by_cases h1 : q = n <;> by_cases h2 : q ∈ ns <;> simp [h1, h2]
theorem markL_snoc (s : List Bool) (ns : List Nat) (n : Nat) : markL s (ns ++ [n]) = (markL s ns).set n true := by simp [markL]
theorem markL_le {ns : List Nat} {s : List Bool} (h : ∀ n ∈ ns, n < s.length) : Le s (markL s ns) :=
  ⟨(markL_len ns s).symm, fun p hp => by rw [markL_mk ns s p h, hp]; simp⟩

section
variable {nx : Nat → List Nat} {N : Nat} (hb : ∀ p, p < N → ∀ n ∈ nx p, n ≤ N)
include hb
theorem oneF_le {s : List Bool} (hl : s.length = N + 1) {p : Nat} (hp : p < N) : Le s (oneF nx s p) := by
  unfold oneF
  split
  · exact markL_le fun n hn => by have := hb p hp n hn; omega
  · exact Le.refl _
theorem oneF_fold {S : List Nat} : ∀ (ps : List Nat) (s : List Bool), s.length = N + 1 → (∀ p ∈ ps, p < N) → (∀ q, mk s q = true → Reach nx N S q) →
    Le s (ps.foldl (oneF nx) s) ∧ (∀ q, mk (ps.foldl (oneF nx) s) q = true → Reach nx N S q) ∧ (∀ p ∈ ps, mk s p = true → ∀ n ∈ nx p, mk (ps.foldl (oneF nx) s) n = true)
  | [], s, _, _, h => ⟨Le.refl _, h, by simp⟩
  | p :: ps, s, hl, hp, h => by
    have hpN := hp p (List.mem_cons_self ..)
    have h1 := oneF_le hb hl hpN
    have h2 : ∀ q, mk (oneF nx s p) q = true → Reach nx N S q := by
      intro q hq
      unfold oneF at hq
      split at hq
      · rename_i hm
        rw [markL_mk _ _ _ (fun n hn => by have := hb p hpN n hn; omega)] at hq
        rw [Bool.or_eq_true] at hq
        rcases hq with hq | hq
        · exact .step (h p hm) hpN (of_decide_eq_true hq)
        · exact h q hq
      · exact h q hq
    obtain ⟨k1, k2, k3⟩ := oneF_fold (S := S) ps (oneF nx s p) (h1.1.symm.trans hl) (fun q hq => hp q (List.mem_cons_of_mem _ hq)) h2
    rw [List.foldl_cons]
    refine ⟨h1.trans k1, k2, fun q hq hm n hn => ?_⟩
    rcases List.mem_cons.1 hq with rfl | hq
    · apply k1.2
      unfold oneF
      rw [if_pos hm, markL_mk _ _ _ (fun n hn => by have := hb q hpN n hn; omega)]
      simp [hn]
    · exact k3 q hq (h1.2 q hm) n hn
/-- All that may follow a marked place is marked. -/
def Clo (nx : Nat → List Nat) (N : Nat) (s : List Bool) : Prop := ∀ p, p < N → mk s p = true → ∀ n ∈ nx p, mk s n = true
theorem roundF_of {S : List Nat} {s : List Bool} (hl : s.length = N + 1) (h : ∀ q, mk s q = true → Reach nx N S q) :
    Le s (roundF nx N s) ∧ (∀ q, mk (roundF nx N s) q = true → Reach nx N S q) ∧ (∀ p, p < N → mk s p = true → ∀ n ∈ nx p, mk (roundF nx N s) n = true) := by
  obtain ⟨h1, h2, h3⟩ := oneF_fold hb (List.range N) s hl (fun p hp => List.mem_range.1 hp) h
  exact ⟨h1, h2, fun p hp => h3 p (List.mem_range.2 hp)⟩
theorem Le.eq_of_count {s t : List Bool} (h : Le s t) (hc : t.count true ≤ s.count true) (p : Nat) (hp : mk t p = true) : mk s p = true := by
  cases hs : mk s p
  · have := count_lt h p hs hp; omega
  · rfl
theorem roundsF_of {S : List Nat} {s : List Bool} (hl : s.length = N + 1) (h : ∀ q, mk s q = true → Reach nx N S q) : ∀ k : Nat,
    Le s (roundsF nx N k s) ∧ (∀ q, mk (roundsF nx N k s) q = true → Reach nx N S q) ∧ (Clo nx N (roundsF nx N k s) ∨ s.count true + k ≤ (roundsF nx N k s).count true)
  | 0 => ⟨Le.refl _, h, .inr (by simp [roundsF])⟩
  | k + 1 => by
    obtain ⟨k1, k2, k3⟩ := roundsF_of hl h k
    obtain ⟨r1, r2, r3⟩ := roundF_of hb (k1.1.symm.trans hl) k2
    refine ⟨k1.trans r1, r2, ?_⟩
    show Clo nx N (roundF nx N (roundsF nx N k s)) ∨ _
    by_cases hc : (roundF nx N (roundsF nx N k s)).count true ≤ (roundsF nx N k s).count true
    · refine .inl fun p hp hm n hn => r3 p hp (Le.eq_of_count hb r1 hc p hm) n hn
    · rcases k3 with k3 | k3
      · refine .inl ?_
        exfalso
        apply hc
        -- closed already: nothing is new
        have : ∀ q, mk (roundF nx N (roundsF nx N k s)) q = true → mk (roundsF nx N k s) q = true := by
          obtain ⟨-, r2', -⟩ := roundF_of hb (S := (List.range (N + 1)).filter fun q => mk (roundsF nx N k s) q) (s := roundsF nx N k s) (k1.1.symm.trans hl) (fun q hq => .start (List.mem_filter.2 ⟨List.mem_range.2 (by have := mk_lt hq; have := k1.1; omega), hq⟩))
          intro q hq
          exact (r2' q hq).closed (Q := fun q => mk (roundsF nx N k s) q = true) (fun p hp => (List.mem_filter.1 hp).2) (fun p hp hpN n hn => k3 p hpN hp n hn)
        exact count_le ⟨r1.1.symm, this⟩
      · exact .inr (by show _ ≤ (roundF nx N (roundsF nx N k s)).count true; omega)
/-- By so many rounds all is found that may be come to. -/
theorem fromF_iff {S : List Nat} (hS : ∀ s ∈ S, s ≤ N) (p : Nat) : mk (fromF nx N S) p = true ↔ Reach nx N S p := by
  unfold fromF
  have hS' : ∀ n ∈ S, n < (List.replicate (N + 1) false).length := fun n hn => by have := hS n hn; simp; omega
  have hl : (markL (List.replicate (N + 1) false) S).length = N + 1 := by rw [markL_len]; simp
  have hm : ∀ q, mk (markL (List.replicate (N + 1) false) S) q = decide (q ∈ S) := fun q => by rw [markL_mk _ _ _ hS', mk_none]; simp
  obtain ⟨h1, h2, h3⟩ := roundsF_of hb (S := S) hl (fun q hq => .start (by rw [hm] at hq; exact of_decide_eq_true hq)) N
  refine ⟨h2 p, fun h => ?_⟩
  have hc : Clo nx N (roundsF nx N N (markL (List.replicate (N + 1) false) S)) := by
    rcases h3 with h3 | h3
    · exact h3
    · by_cases h0 : S = []
      · subst h0
        intro q hq hm1 n hn
        have := h2 q hm1
        obtain ⟨s, hs, -⟩ := this.cut
        simp at hs
      · obtain ⟨s, hs⟩ := List.exists_mem_of_ne_nil _ h0
        have h4 : 1 ≤ (markL (List.replicate (N + 1) false) S).count true := by
          refine (List.count_pos_iff (a := true) (l := markL (List.replicate (N + 1) false) S)).2 ?_
          · have h5 := hm s
            rw [decide_eq_true hs] at h5
            have h6 := mk_lt h5
            unfold mk at h5
            rw [List.getD_eq_getElem?_getD, List.getElem?_eq_getElem h6] at h5
            exact List.mem_of_getElem (h := h6) h5
        have hlen : (roundsF nx N N (markL (List.replicate (N + 1) false) S)).length = N + 1 := h1.1.symm.trans hl
        intro q hq hm1 n hn
        exact count_all (by omega) n (by have := hb q hq n hn; omega)
  exact h.closed (Q := fun q => mk (roundsF nx N N (markL (List.replicate (N + 1) false) S)) q = true) (fun q hq => h1.2 q (by rw [hm]; exact decide_eq_true hq)) (fun q hq hqN n hn => hc q hqN hq n hn)
theorem fromF_len (S : List Nat) : (fromF nx N S).length = N + 1 := by
  unfold fromF
  have hl : (markL (List.replicate (N + 1) false) S).length = N + 1 := by rw [markL_len]; simp
  have : ∀ k, (roundsF nx N k (markL (List.replicate (N + 1) false) S)).length = N + 1 := by
    intro k
    induction k with
    | zero => exact hl
    | succ k ih =>
      show (roundF nx N _).length = _
      have : ∀ (ps : List Nat) (s : List Bool), s.length = N + 1 → (ps.foldl (oneF nx) s).length = N + 1 := by
        intro ps
        induction ps with
        | nil => exact fun s h => h
        | cons p ps ih2 =>
          intro s h
          refine ih2 _ ?_
          unfold oneF
          split
          · rw [markL_len]; exact h
          · exact h
      exact this _ _ ih
  exact this N
end

theorem oneF_len (nx : Nat → List Nat) (s : List Bool) (p : Nat) : (oneF nx s p).length = s.length := by
  unfold oneF
  split
  · exact markL_len _ _
  · rfl
theorem oneF_foldlen (nx : Nat → List Nat) : ∀ (ps : List Nat) (s : List Bool), (ps.foldl (oneF nx) s).length = s.length
  | [], s => rfl
  | p :: ps, s => by rw [List.foldl_cons, oneF_foldlen nx ps, oneF_len]
theorem roundsF_len (nx : Nat → List Nat) (N : Nat) (s : List Bool) : ∀ k : Nat, (roundsF nx N k s).length = s.length
  | 0 => rfl
  | k + 1 => by
    show (roundF nx N (roundsF nx N k s)).length = _
    unfold roundF
    rw [oneF_foldlen, roundsF_len nx N s k]
/-- A walk in depth. -/
def dfs (nx : Nat → List Nat) (N : Nat) : Nat → List Bool → Nat → List Bool
  | 0, s, _ => s
  | f + 1, s, p => if N ≤ p ∨ mk s p = true then s else (nx p).foldl (dfs nx N f) (s.set p true)

/-- What a walk from p leaves: s' of s. -/
def Walked (nx : Nat → List Nat) (N : Nat) (s s' : List Bool) (P : List Nat) : Prop :=
  Le s s' ∧ (∀ p ∈ P, p < N → mk s' p = true) ∧ (∀ q, q < N → mk s' q = true → mk s q = false → ∀ n ∈ nx q, n < N → mk s' n = true) ∧ (∀ q, mk s' q = true → mk s q = true ∨ Reach nx N P q)
theorem Walked.two {nx : Nat → List Nat} {N : Nat} {s t u : List Bool} {P Q : List Nat} (h : Walked nx N s t P) (k : Walked nx N t u Q) : Walked nx N s u (P ++ Q) := by
  refine ⟨h.1.trans k.1, fun p hp hN => ?_, fun q hq hu hs n hn hN => ?_, fun q hq => ?_⟩
  · rcases List.mem_append.1 hp with hp | hp
    · exact k.1.2 p (h.2.1 p hp hN)
    · exact k.2.1 p hp hN
  · cases ht : mk t q
    · exact k.2.2.1 q hq hu ht n hn hN
    · exact k.1.2 n (h.2.2.1 q hq ht hs n hn hN)
  · rcases k.2.2.2 q hq with h1 | h1
    · rcases h.2.2.2 q h1 with h2 | h2
      · exact .inl h2
      · obtain ⟨s, hs, hr⟩ := h2.cut
        exact .inr (Reach.trans (.start (List.mem_append_left _ hs)) hr)
    · obtain ⟨s, hs, hr⟩ := h1.cut
      exact .inr (Reach.trans (.start (List.mem_append_right _ hs)) hr)
theorem Walked.nil (nx : Nat → List Nat) (N : Nat) (s : List Bool) : Walked nx N s s [] := ⟨Le.refl _, by simp, fun q _ h1 h2 => (by rw [h1] at h2; cases h2), fun q h => .inl h⟩
theorem Walked.fold {nx : Nat → List Nat} {N : Nat} (g : List Bool → Nat → List Bool) (c : Nat) (hg : ∀ s p, s.length = N → c ≤ s.count true → Walked nx N s (g s p) [p]) : ∀ (ns : List Nat) (s : List Bool), s.length = N → c ≤ s.count true → Walked nx N s (ns.foldl g s) ns
  | [], s, _, _ => Walked.nil nx N s
  | n :: ns, s, hl, hc => by
    have h1 := hg s n hl hc
    exact h1.two (Walked.fold g c hg ns (g s n) (h1.1.1.symm.trans hl) (Nat.le_trans hc (count_le h1.1)))
theorem dfs_of {nx : Nat → List Nat} {N : Nat} : ∀ (f : Nat) (s : List Bool) (p : Nat), s.length = N → N < f + s.count true → Walked nx N s (dfs nx N f s p) [p]
  | 0, s, p, hl, hf => by have := count_max s; omega
  | f + 1, s, p, hl, hf => by
    unfold dfs
    by_cases h : N ≤ p ∨ mk s p = true
    · rw [if_pos h]
      refine ⟨Le.refl _, fun q hq hN => ?_, fun q _ h1 h2 => (by rw [h1] at h2; cases h2), fun q h => .inl h⟩
      simp at hq
      subst hq
      exact h.resolve_left (by omega)
    · rw [if_neg h]
      have hp : p < s.length := by omega
      have hm : mk s p = false := by simpa using fun e => h (.inr e)
      have hc := count_set hp hm
      have k := Walked.fold (nx := nx) (N := N) (dfs nx N f) (s.count true + 1) (fun s' q hl' hc' => dfs_of f s' q hl' (by omega)) (nx p) (s.set p true) (by simpa using hl) hc
      obtain ⟨k1, k2, k3, k4⟩ := k
      have hself : mk ((nx p).foldl (dfs nx N f) (s.set p true)) p = true := k1.2 p (by rw [mk_set hp]; simp)
      refine ⟨(Le.set hp).trans k1, fun q hq _ => by simp at hq; subst hq; exact hself, fun q hq h1 h2 n hn hN => ?_, fun q hq => ?_⟩
      · by_cases hqp : q = p
        · subst hqp; exact k2 n hn hN
        · exact k3 q hq h1 (by rw [mk_set hp, h2]; simp [hqp]) n hn hN
      · rcases k4 q hq with h1 | h1
        · rw [mk_set hp, Bool.or_eq_true] at h1
          rcases h1 with h1 | h1
          · have := of_decide_eq_true h1
            subst this
            exact .inr (.start (List.mem_singleton.2 rfl))
          · exact .inl h1
        · obtain ⟨n, hn, hr⟩ := h1.cut
          exact .inr (Reach.trans (.step (.start (List.mem_singleton.2 rfl)) (by omega) hn) hr)
theorem foldl_Le {N : Nat} (g : List Bool → Nat → List Bool) (hg : ∀ s p, s.length = N → Le s (g s p)) : ∀ (ns : List Nat) (s : List Bool), s.length = N → Le s (ns.foldl g s)
  | [], s, _ => Le.refl _
  | n :: ns, s, h => (hg s n h).trans (foldl_Le g hg ns (g s n) ((hg s n h).1.symm.trans h))
theorem dfs_Le {nx : Nat → List Nat} {N : Nat} : ∀ (f : Nat) (s : List Bool) (p : Nat), s.length = N → Le s (dfs nx N f s p)
  | 0, s, p, _ => Le.refl _
  | f + 1, s, p, h => by
    unfold dfs
    split
    · exact Le.refl _
    · rename_i hc
      exact (Le.set (by omega)).trans (foldl_Le _ (fun s' q h' => dfs_Le f s' q h') (nx p) _ (by simpa using h))
/-- A walk in depth finds what may be come to. -/
theorem dfs_iff {nx : Nat → List Nat} {N : Nat} (p : Nat) (hp : p < N) : mk (dfs nx N (N + 1) (List.replicate N false) 0) p = true ↔ Reach nx N [0] p := by
  obtain ⟨h1, h2, h3, h4⟩ := dfs_of (nx := nx) (N := N) (N + 1) (List.replicate N false) 0 (by simp) (by omega)
  refine ⟨fun h => (h4 p h).resolve_left (by rw [mk_none]; simp), fun h => ?_⟩
  have : p < N → mk (dfs nx N (N + 1) (List.replicate N false) 0) p = true := h.closed (Q := fun q => q < N → mk (dfs nx N (N + 1) (List.replicate N false) 0) q = true) (fun q hq hN => h2 q hq hN) (fun q hq hqN n hn hN => h3 q hqN (hq hqN) (mk_none N q) n hn hN)
  exact this hp
/-- Both find the same. -/
theorem dfs_fromF {nx : Nat → List Nat} {N : Nat} (hb : ∀ p, p < N → ∀ n ∈ nx p, n ≤ N) : dfs nx N (N + 1) (List.replicate N false) 0 = (fromF nx N [0]).take N := by
  have hl : (dfs nx N (N + 1) (List.replicate N false) 0).length = N := ((dfs_of (nx := nx) (N := N) (N + 1) (List.replicate N false) 0 (by simp) (by omega)).1.1.symm).trans (by simp)
  have hl2 := fromF_len (nx := nx) (N := N) hb [0]
  refine List.ext_getElem (by simp [hl, hl2]) fun p h1 h2 => ?_
  have e1 : (dfs nx N (N + 1) (List.replicate N false) 0)[p] = mk (dfs nx N (N + 1) (List.replicate N false) 0) p := by
    unfold mk; rw [List.getD_eq_getElem?_getD, List.getElem?_eq_getElem h1]; rfl
  have e2 : ((fromF nx N [0]).take N)[p] = mk (fromF nx N [0]) p := by
    unfold mk; rw [List.getElem_take, List.getD_eq_getElem?_getD, List.getElem?_eq_getElem (by omega)]; rfl
  rw [e1, e2, Bool.eq_iff_iff, dfs_iff p (by omega), fromF_iff hb (by simp) p]
end Go.RR
