/- Blocks in plain words: where they begin, and which follow which. No condition. -/
import Derived.Test.YtdkplhdinklflaaFlow13
set_option linter.unusedVariables false
namespace Go.Proofs.Ytdkplhdinklflaa
open Go.RowKit Go.RR

/-- Does a block begin at a place? -/
def firstB (l : List In) (p : Nat) : Bool := decide (p = 0) || decide (p = l.length) || (List.range l.length).any fun q => match l[q]? with
  | some i => cutsB i && (decide (q + 1 = p) || (nxN l q).any fun n => decide (n = p))
  | none => false
theorem firstB_iff (l : List In) (p : Nat) : firstB l p = true ↔ InKeys l l.length (p : Int) := by
  unfold firstB InKeys
  rw [Bool.or_eq_true, Bool.or_eq_true, List.any_eq_true]
  constructor
  · rintro ((h | h) | ⟨q, hq, h⟩)
    · exact .inl (by have := of_decide_eq_true h; omega)
    · exact .inr (.inl (by have := of_decide_eq_true h; omega))
    · have hql := List.mem_range.1 hq
      rw [List.getElem?_eq_getElem hql] at h
      simp only [Bool.and_eq_true, Bool.or_eq_true, List.any_eq_true] at h
      refine .inr (.inr ⟨q, l[q], hql, List.getElem?_eq_getElem hql, h.1, ?_⟩)
      rcases h.2 with h2 | ⟨n, hn, h2⟩
      · exact .inl (by have := of_decide_eq_true h2; omega)
      · have := of_decide_eq_true h2
        subst this
        rw [nextF_nx]
        exact .inr (List.mem_map.2 ⟨n, hn, rfl⟩)
  · rintro (h | h | ⟨q, i, hq, hi, hc, h⟩)
    · exact .inl (.inl (decide_eq_true (by omega)))
    · exact .inl (.inr (decide_eq_true (by omega)))
    · refine .inr ⟨q, List.mem_range.2 hq, ?_⟩
      rw [hi]
      simp only [Bool.and_eq_true, Bool.or_eq_true, List.any_eq_true]
      refine ⟨hc, ?_⟩
      rcases h with h | h
      · exact .inl (decide_eq_true (by omega))
      · rw [nextF_nx] at h
        obtain ⟨n, hn, e⟩ := List.mem_map.1 h
        exact .inr ⟨n, hn, decide_eq_true (by omega)⟩
/-- Where blocks begin, rising, and the end. -/
def begF (l : List In) : List Nat := (List.range (l.length + 1)).filter (firstB l)
theorem range_lt (n : Nat) : (List.range n).Pairwise (· < ·) := List.pairwise_lt_range
theorem begF_lt (l : List In) : (begF l).Pairwise (· < ·) := (range_lt _).filter _
theorem begF_mem {l : List In} {p : Nat} : p ∈ begF l ↔ InKeys l l.length (p : Int) := by
  unfold begF
  rw [List.mem_filter, firstB_iff, List.mem_range]
  exact ⟨fun h => h.2, fun h => ⟨by have := h.in; omega, h⟩⟩
theorem rising_eq : ∀ (a b : List Int), a.Pairwise (· < ·) → b.Pairwise (· < ·) → (∀ x, x ∈ a ↔ x ∈ b) → a = b
  | [], [], _, _, _ => rfl
  | [], y :: b, _, _, h => by have := (h y).2 (List.mem_cons_self ..); simp at this
  | x :: a, [], _, _, h => by have := (h x).1 (List.mem_cons_self ..); simp at this
  | x :: a, y :: b, ha, hb, h => by
    rw [List.pairwise_cons] at ha hb
    have hxy : x = y := by
      have h1 := (h x).1 (List.mem_cons_self ..)
      have h2 := (h y).2 (List.mem_cons_self ..)
      rcases List.mem_cons.1 h1 with h1 | h1
      · exact h1
      · rcases List.mem_cons.1 h2 with h2 | h2
        · exact h2.symm
        · have := hb.1 x h1; have := ha.1 y h2; omega
    subst hxy
    congr 1
    refine rising_eq a b ha.2 hb.2 fun z => ⟨fun hz => ?_, fun hz => ?_⟩
    · rcases List.mem_cons.1 ((h z).1 (List.mem_cons_of_mem _ hz)) with e | e
      · have := ha.1 z hz; omega
      · exact e
    · rcases List.mem_cons.1 ((h z).2 (List.mem_cons_of_mem _ hz)) with e | e
      · have := hb.1 z hz; omega
      · exact e
theorem begins_eq {l : List In} {ks : List Int} (h1 : ks.Pairwise (· < ·)) (h2 : ∀ x, x ∈ ks ↔ InKeys l l.length x) : ks = (begF l).map fun n : Nat => (n : Int) := by
  refine rising_eq _ _ h1 ?_ fun x => ?_
  · rw [List.pairwise_map]
    exact (begF_lt l).imp fun h => by omega
  · rw [h2]
    constructor
    · intro h
      have := h.in
      obtain ⟨n, rfl⟩ := Int.eq_ofNat_of_zero_le this.1
      exact List.mem_map.2 ⟨n, begF_mem.2 h, rfl⟩
    · intro h
      obtain ⟨n, hn, rfl⟩ := List.mem_map.1 h
      exact begF_mem.1 hn
theorem begF_len (l : List In) : (begF l).length ≤ l.length + 1 := by
  unfold begF
  have := List.length_filter_le (firstB l) (List.range (l.length + 1))
  simpa using this
theorem begF_two {l : List In} (h : 0 < l.length) : 2 ≤ (begF l).length := by
  have h0 : 0 ∈ begF l := begF_mem.2 (.inl rfl)
  have h1 : l.length ∈ begF l := begF_mem.2 (.inr (.inl rfl))
  match hb : begF l, h0, h1 with
  | [], h0, _ => simp at h0
  | [x], h0, h1 => simp at h0 h1; omega
  | x :: y :: r, _, _ => simp

/-- Which number has a place among them? -/
def cntN (bs : List Nat) (n : Nat) : Nat := bs.countP fun p => decide (p < n)
def posL (bs : List Nat) (n : Nat) : List Nat := (List.range bs.length).filter fun j => decide (bs.getD j 0 = n)
theorem cntN_at : ∀ {bs : List Nat} {j n : Nat}, bs.Pairwise (· < ·) → bs[j]? = some n → cntN bs n = j
  | [], j, n, _, h => by simp at h
  | b :: bs, 0, n, hp, h => by
    simp at h
    subst h
    rw [List.pairwise_cons] at hp
    unfold cntN
    rw [List.countP_cons, List.countP_eq_zero.2 fun p hp' => by have := hp.1 p hp'; simp; omega]
    simp
  | b :: bs, j + 1, n, hp, h => by
    rw [List.pairwise_cons] at hp
    have h' : bs[j]? = some n := by simpa using h
    have ih := cntN_at hp.2 h'
    have hb := hp.1 n (List.mem_of_getElem? h')
    unfold cntN at ih ⊢
    rw [List.countP_cons, ih]
    simp [hb]
theorem range_one : ∀ (n j : Nat), j < n → (List.range n).filter (fun k => decide (k = j)) = [j]
  | 0, j, h => by omega
  | n + 1, j, h => by
    rw [List.range_succ, List.filter_append]
    by_cases e : j = n
    · subst e
      have : (List.range j).filter (fun k => decide (k = j)) = [] := by
        rw [List.filter_eq_nil_iff]
        intro k hk
        have := List.mem_range.1 hk
        simp; omega
      rw [this]
      simp
    · rw [range_one n j (by omega)]
      have : ¬ n = j := fun h => e h.symm
      simp [this]
theorem posL_at {bs : List Nat} {n : Nat} (hp : bs.Pairwise (· < ·)) (h : n ∈ bs) : posL bs n = [cntN bs n] := by
  obtain ⟨j, hj⟩ := List.mem_iff_getElem?.1 h
  have hjl := (List.getElem?_eq_some_iff.1 hj).1
  have key : ∀ k, k < bs.length → (decide (bs.getD k 0 = n) = decide (k = j)) := by
    intro k hk
    rw [decide_eq_decide]
    have hg : bs[k]? = some (bs.getD k 0) := by rw [List.getD_eq_getElem?_getD, List.getElem?_eq_getElem hk]; rfl
    constructor
    · intro e
      rw [e] at hg
      exact (cntN_at hp hg).symm.trans (cntN_at hp hj)
    · intro e
      subst e
      rw [hj] at hg
      exact (Option.some.inj hg).symm
  rw [cntN_at hp hj]
  unfold posL
  have e1 : (List.range bs.length).filter (fun k => decide (bs.getD k 0 = n)) = (List.range bs.length).filter (fun k => decide (k = j)) :=
    List.filter_congr fun k hk => key k (List.mem_range.1 hk)
  rw [e1]
  exact range_one _ j hjl
/-- What may follow the last instruction of a block begins a block. -/
theorem nexts_in {l : List In} {q : Nat} (hq : q + 1 ∈ begF l) : ∀ n ∈ nxN l q, n ∈ begF l := by
  intro n hn
  have hql : q < l.length := by
    rcases Nat.lt_or_ge q l.length with h | h
    · exact h
    · rw [nxN_out h] at hn; simp at hn
  obtain ⟨i, hi⟩ : ∃ i, l[q]? = some i := ⟨l[q], by simp [hql]⟩
  cases hc : cutsB i
  · have h1 : nextF l (q : Int) = [(q : Int) + 1] := by
      rw [nextF_at hi]
      unfold cutsB jumpB at hc
      simp only [Bool.or_eq_false_iff, decide_eq_false_iff_not] at hc
      unfold follow
      rw [if_neg hc.1.2, if_neg hc.1.1, if_neg hc.2]
    unfold nxN at hn
    rw [h1] at hn
    simp at hn
    have : n = q + 1 := by omega
    rw [this]
    exact hq
  · exact begF_mem.2 (.inr (.inr ⟨q, i, hql, hi, hc, .inr (by rw [nextF_nx]; exact List.mem_map.2 ⟨n, hn, rfl⟩)⟩))

abbrev Bk := Nat × Nat × List Nat
/-- The block of number k, by the reference; by the program. -/
def bkR (l : List In) (k : Nat) : Bk := ((begF l).getD k 0, (begF l).getD (k + 1) 0, (nxN l ((begF l).getD (k + 1) 0 - 1)).flatMap (posL (begF l)))
def bkP (l : List In) (k : Nat) : Bk := ((begF l).getD k 0, (begF l).getD (k + 1) 0, (nxN l ((begF l).getD (k + 1) 0 - 1)).map (cntN (begF l)))
theorem bk_eq {l : List In} {k : Nat} (hk : k + 1 < (begF l).length) : bkR l k = bkP l k := by
  have hm : (begF l).getD (k + 1) 0 ∈ begF l := by
    rw [List.getD_eq_getElem?_getD, List.getElem?_eq_getElem hk]
    exact List.getElem_mem _
  have hpos : 0 < (begF l).getD (k + 1) 0 := by
    have h := List.pairwise_iff_getElem.1 (begF_lt l) k (k + 1) (by omega) hk (by omega)
    rw [List.getD_eq_getElem?_getD, List.getElem?_eq_getElem hk]
    simp only [Option.getD_some]
    omega
  have hin := nexts_in (l := l) (q := (begF l).getD (k + 1) 0 - 1) (by rw [show (begF l).getD (k + 1) 0 - 1 + 1 = (begF l).getD (k + 1) 0 by omega]; exact hm)
  unfold bkR bkP
  refine Prod.ext rfl (Prod.ext rfl ?_)
  simp only
  generalize nxN l ((begF l).getD (k + 1) 0 - 1) = ns at *
  have : ∀ ns : List Nat, (∀ n ∈ ns, n ∈ begF l) → ns.flatMap (posL (begF l)) = ns.map (cntN (begF l)) := by
    intro ns
    induction ns with
    | nil => intro _; rfl
    | cons n ns ih =>
      intro h
      rw [List.flatMap_cons, posL_at (begF_lt l) (h n (List.mem_cons_self ..)), ih fun m hm => h m (List.mem_cons_of_mem _ hm)]
      rfl
  exact this ns hin
/-- The blocks of a program. -/
def blocksF (l : List In) : List Bk := if l.length = 0 then [] else (List.range ((begF l).length - 1)).map (bkR l)
theorem blocksF_P {l : List In} (h : l.length ≠ 0) : blocksF l = (List.range ((begF l).length - 1)).map (bkP l) := by
  unfold blocksF
  rw [if_neg h]
  refine List.map_congr_left fun k hk => bk_eq ?_
  have := List.mem_range.1 hk
  omega
end Go.Proofs.Ytdkplhdinklflaa
