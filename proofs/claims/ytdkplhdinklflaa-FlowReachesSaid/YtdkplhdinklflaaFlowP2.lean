/- How long a way may be: by a walk that keeps what it knows, and by rounds. No program in sight. -/
import Derived.Test.YtdkplhdinklflaaFlowP1
set_option linter.unusedVariables false
namespace Go.RR

abbrev Memo := Nat → Option Int
def upd (m : Memo) (p : Nat) (x : Int) : Memo := fun q => if q = p then some x else m q
theorem upd_same (m : Memo) (p : Nat) (x : Int) : upd m p x p = some x := by simp [upd]
theorem upd_ne {m : Memo} {p q : Nat} {x : Int} (h : q ≠ p) : upd m p x q = m q := by simp [upd, h]

section
variable (nx : Nat → List Nat) (N : Nat)
/-- The walk: what it answers, what it knows then, and whether it has met itself. -/
def lng : Nat → Memo × Bool → Nat → Int × (Memo × Bool)
  | 0, S, _ => (0, S)
  | f + 1, S, p => if N ≤ p ∨ S.2 = true then (0, S) else match S.1 p with
    | some n => (n, (S.1, decide (n < 0)))
    | none =>
      let r := (nx p).foldl (fun (a : Int × (Memo × Bool)) n => (max a.1 (lng f a.2 n).1, (lng f a.2 n).2)) ((0 : Int), ((upd S.1 p (-1), false) : Memo × Bool))
      (r.1 + 1, (upd r.2.1 p (r.1 + 1), r.2.2))
def lstep (f : Nat) (a : Int × (Memo × Bool)) (n : Nat) : Int × (Memo × Bool) := (max a.1 (lng nx N f a.2 n).1, (lng nx N f a.2 n).2)
theorem lng_new {f : Nat} {S : Memo × Bool} {p : Nat} (h1 : p < N) (h2 : S.2 = false) (h3 : S.1 p = none) :
    lng nx N (f + 1) S p = (((nx p).foldl (lstep nx N f) ((0 : Int), ((upd S.1 p (-1), false) : Memo × Bool))).1 + 1, (upd ((nx p).foldl (lstep nx N f) ((0 : Int), ((upd S.1 p (-1), false) : Memo × Bool))).2.1 p (((nx p).foldl (lstep nx N f) ((0 : Int), ((upd S.1 p (-1), false) : Memo × Bool))).1 + 1), ((nx p).foldl (lstep nx N f) ((0 : Int), ((upd S.1 p (-1), false) : Memo × Bool))).2.2)) := by
  show (if N ≤ p ∨ S.2 = true then _ else _) = _
  rw [if_neg (by rintro (h | h); omega; rw [h2] at h; cases h), h3]
  rfl
theorem lng_old {f : Nat} {S : Memo × Bool} {p : Nat} {n : Int} (h1 : p < N) (h2 : S.2 = false) (h3 : S.1 p = some n) : lng nx N (f + 1) S p = (n, (S.1, decide (n < 0))) := by
  show (if N ≤ p ∨ S.2 = true then _ else _) = _
  rw [if_neg (by rintro (h | h); omega; rw [h2] at h; cases h), h3]
theorem lng_out {f : Nat} {S : Memo × Bool} {p : Nat} (h : N ≤ p ∨ S.2 = true) : lng nx N (f + 1) S p = (0, S) := by
  show (if N ≤ p ∨ S.2 = true then _ else _) = _
  rw [if_pos h]

/-- How much is known; how much is done. -/
def kn (m : Memo) : Nat := ((List.range N).filter fun q => (m q).isSome).length
def dn (m : Memo) : Nat := ((List.range N).filter fun q => decide (0 < (m q).getD 0)).length
/-- The worth of a place. -/
def val (m : Memo) (n : Nat) : Int := if N ≤ n then 0 else (m n).getD 0
/-- All that is known is under way, or done rightly. -/
def Inv (m : Memo) : Prop := ∀ q x, m q = some x → q < N ∧ (x = -1 ∨ (1 ≤ x ∧ x ≤ dn N m ∧ (∀ n ∈ nx q, n < N → ∃ y, m n = some y ∧ 1 ≤ y ∧ y + 1 ≤ x) ∧ x = (nx q).foldl (fun b n => max b (val N m n)) 0 + 1))
end

theorem filt_le {α : Type} (f g : α → Bool) : ∀ l : List α, (∀ a ∈ l, f a = true → g a = true) → (l.filter f).length ≤ (l.filter g).length
  | [], _ => Nat.le_refl _
  | a :: l, h => by
    have ih := filt_le f g l fun b hb => h b (List.mem_cons_of_mem _ hb)
    have h0 := h a (List.mem_cons_self ..)
    cases hf : f a <;> cases hg : g a <;> simp_all <;> omega
theorem filt_lt {α : Type} (f g : α → Bool) : ∀ l : List α, (∀ a ∈ l, f a = true → g a = true) → ∀ b ∈ l, f b = false → g b = true → (l.filter f).length + 1 ≤ (l.filter g).length
  | [], _, b, hb, _, _ => by simp at hb
  | a :: l, h, b, hb, h1, h2 => by
    have h0 := h a (List.mem_cons_self ..)
    have hl : ∀ a ∈ l, f a = true → g a = true := fun b hb => h b (List.mem_cons_of_mem _ hb)
    rcases List.mem_cons.1 hb with rfl | hb
    · have := filt_le f g l hl
      simp [h1, h2]; omega
    · have ih := filt_lt f g l hl b hb h1 h2
      cases hf : f a <;> cases hg : g a <;> simp_all <;> omega

section
variable {nx : Nat → List Nat} {N : Nat}
/-- m' knows all that m knows. -/
def Knows (m m' : Memo) : Prop := ∀ q x, m q = some x → m' q = some x
theorem Knows.refl (m : Memo) : Knows m m := fun _ _ h => h
theorem Knows.trans {m m' m'' : Memo} (h : Knows m m') (k : Knows m' m'') : Knows m m'' := fun q x hq => k q x (h q x hq)
theorem Knows.kn {m m' : Memo} (h : Knows m m') : kn N m ≤ kn N m' := filt_le _ _ _ fun q _ hq => by
  obtain ⟨x, hx⟩ := Option.isSome_iff_exists.1 hq
  rw [h q x hx]; rfl
theorem Knows.dn {m m' : Memo} (h : Knows m m') : dn N m ≤ dn N m' := filt_le _ _ _ fun q _ hq => by
  cases hm : m q with
  | none => rw [hm] at hq; simp at hq
  | some x => rw [hm] at hq; rw [h q x hm]; exact hq
theorem kn_max (m : Memo) : kn N m ≤ N := by
  have := List.length_filter_le (fun q => (m q).isSome) (List.range N)
  unfold RR.kn
  simpa using this
theorem dn_max (m : Memo) : dn N m ≤ N := by
  have := List.length_filter_le (fun q => decide (0 < (m q).getD 0)) (List.range N)
  unfold RR.dn
  simpa using this
/-- A way from p meets itself. -/
def Loopy (nx : Nat → List Nat) (N : Nat) (p : Nat) : Prop := ∃ q, q < N ∧ Reach nx N [p] q ∧ Reach nx N (nx q) q
/-- What a walk over the places P leaves. -/
def Went (nx : Nat → List Nat) (N : Nat) (m m' : Memo) (b' : Bool) (P : List Nat) : Prop :=
  (b' = false → Knows m m' ∧ Inv nx N m' ∧ (∀ q, m q = none → m' q ≠ some (-1)) ∧ (∀ p ∈ P, p < N → ∃ x, m' p = some x ∧ 1 ≤ x)) ∧
  (b' = true → ∃ p ∈ P, Loopy nx N p ∨ ∃ q, m q = some (-1) ∧ Reach nx N [p] q)
theorem foldl_max_ge (g : Nat → Int) : ∀ (ns : List Nat) (b : Int), b ≤ ns.foldl (fun b n => max b (g n)) b ∧ ∀ n ∈ ns, g n ≤ ns.foldl (fun b n => max b (g n)) b
  | [], b => ⟨Int.le_refl _, by simp⟩
  | n :: ns, b => by
    obtain ⟨h1, h2⟩ := foldl_max_ge g ns (max b (g n))
    rw [List.foldl_cons]
    refine ⟨by omega, fun k hk => ?_⟩
    rcases List.mem_cons.1 hk with rfl | hk
    · omega
    · exact h2 k hk
theorem foldl_max_congr {g h : Nat → Int} : ∀ (ns : List Nat) (b : Int), (∀ n ∈ ns, g n = h n) → ns.foldl (fun b n => max b (g n)) b = ns.foldl (fun b n => max b (h n)) b
  | [], b, _ => rfl
  | n :: ns, b, e => by
    rw [List.foldl_cons, List.foldl_cons, e n (List.mem_cons_self ..)]
    exact foldl_max_congr ns _ fun k hk => e k (List.mem_cons_of_mem _ hk)
theorem foldl_max_le {g : Nat → Int} {B : Int} : ∀ (ns : List Nat) (b : Int), b ≤ B → (∀ n ∈ ns, g n ≤ B) → ns.foldl (fun b n => max b (g n)) b ≤ B
  | [], b, h, _ => h
  | n :: ns, b, h, k => by
    rw [List.foldl_cons]
    exact foldl_max_le ns _ (by have := k n (List.mem_cons_self ..); omega) fun m hm => k m (List.mem_cons_of_mem _ hm)

/-- The fold over what may follow. -/
theorem lfold_of {f c : Nat} (hg : ∀ (m : Memo) (p : Nat), Inv nx N m → c ≤ kn N m → Went nx N m (lng nx N f (m, false) p).2.1 (lng nx N f (m, false) p).2.2 [p] ∧ ((lng nx N f (m, false) p).2.2 = false → (lng nx N f (m, false) p).1 = val N (lng nx N f (m, false) p).2.1 p))
    (hb : ∀ S p, S.2 = true → lng nx N f S p = (0, S)) :
    ∀ (ns : List Nat) (m : Memo) (b0 : Int), Inv nx N m → c ≤ kn N m → Went nx N m (ns.foldl (lstep nx N f) (b0, (m, false))).2.1 (ns.foldl (lstep nx N f) (b0, (m, false))).2.2 ns ∧
      ((ns.foldl (lstep nx N f) (b0, (m, false))).2.2 = false → (ns.foldl (lstep nx N f) (b0, (m, false))).1 = ns.foldl (fun b n => max b (val N (ns.foldl (lstep nx N f) (b0, (m, false))).2.1 n)) b0)
  | [], m, b0, hI, _ => ⟨⟨fun _ => ⟨Knows.refl m, hI, fun q hq => by rw [List.foldl_nil]; simp [hq], by simp⟩, fun h => by cases h⟩, fun _ => rfl⟩
  | n :: ns, m, b0, hI, hc => by
    obtain ⟨⟨w1, w2⟩, w3⟩ := hg m n hI hc
    rw [List.foldl_cons]
    have e1 : lstep nx N f (b0, (m, false)) n = (max b0 (lng nx N f (m, false) n).1, (lng nx N f (m, false) n).2) := rfl
    rw [e1]
    generalize lng nx N f (m, false) n = r at *
    obtain ⟨v, m1, b1⟩ := r
    cases b1
    · obtain ⟨k1, k2, k3, k4⟩ := w1 rfl
      simp only at k1 k2 k3 k4 w3
      obtain ⟨⟨u1, u2⟩, u3⟩ := lfold_of hg hb ns m1 (max b0 v) k2 (Nat.le_trans hc k1.kn)
      generalize hR : ns.foldl (lstep nx N f) (max b0 v, (m1, false)) = R at *
      refine ⟨⟨fun h => ?_, fun h => ?_⟩, fun h => ?_⟩
      · obtain ⟨j1, j2, j3, j4⟩ := u1 h
        refine ⟨k1.trans j1, j2, fun q hq => ?_, fun p hp hN => ?_⟩
        · cases h1 : m1 q with
          | none => exact j3 q h1
          | some x =>
            rw [j1 q x h1]
            intro e
            cases e
            exact k3 q hq h1
        · rcases List.mem_cons.1 hp with rfl | hp
          · obtain ⟨x, hx, h1⟩ := k4 p (List.mem_cons_self ..) hN
            exact ⟨x, j1 _ _ hx, h1⟩
          · exact j4 p hp hN
      · obtain ⟨p, hp, h1⟩ := u2 h
        refine ⟨p, List.mem_cons_of_mem _ hp, h1.imp id ?_⟩
        rintro ⟨q, hq, hr⟩
        refine ⟨q, ?_, hr⟩
        cases h2 : m q with
        | none => exact absurd hq (k3 q h2)
        | some x => rw [k1 q x h2] at hq; exact hq
      · obtain ⟨j1, -, -, -⟩ := u1 h
        rw [u3 h, List.foldl_cons]
        congr 1
        rw [w3 trivial]
        congr 1
        unfold val
        by_cases hN : N ≤ n
        · rw [if_pos hN, if_pos hN]
        · rw [if_neg hN, if_neg hN]
          obtain ⟨x, hx, -⟩ := k4 n (List.mem_cons_self ..) (by omega)
          rw [hx, j1 _ _ hx]
    · have hr : ∀ (ns : List Nat) (b : Int), (ns.foldl (lstep nx N f) (b, (m1, true))).2 = (m1, true) := by
        intro ns
        induction ns with
        | nil => exact fun b => rfl
        | cons k ns ih =>
          intro b
          rw [List.foldl_cons]
          have : lstep nx N f (b, (m1, true)) k = (max b 0, (m1, true)) := by
            show (max b (lng nx N f (m1, true) k).1, (lng nx N f (m1, true) k).2) = _
            rw [hb (m1, true) k rfl]
          rw [this]
          exact ih _
      rw [hr]
      obtain ⟨p, hp, h1⟩ := w2 rfl
      simp at hp
      subst hp
      exact ⟨⟨fun h => (by cases h), fun _ => ⟨p, List.mem_cons_self .., h1⟩⟩, fun h => by cases h⟩

theorem Inv.start {m : Memo} {p : Nat} (hI : Inv nx N m) (hp : p < N) (hm : m p = none) : Inv nx N (upd m p (-1)) := by
  have hk : Knows m (upd m p (-1)) := fun q x hq => by rw [upd_ne (by rintro rfl; rw [hm] at hq; cases hq)]; exact hq
  intro q x hq
  by_cases hqp : q = p
  · subst hqp
    rw [upd_same] at hq
    cases hq
    exact ⟨hp, .inl rfl⟩
  · rw [upd_ne hqp] at hq
    obtain ⟨h1, h2⟩ := hI q x hq
    refine ⟨h1, h2.imp id ?_⟩
    rintro ⟨a, b, c, d⟩
    refine ⟨a, Int.le_trans b (Int.ofNat_le.2 hk.dn), fun n hn hN => ?_, ?_⟩
    · obtain ⟨y, hy, r⟩ := c n hn hN
      exact ⟨y, hk _ _ hy, r⟩
    · rw [d]
      congr 1
      refine foldl_max_congr _ _ fun n hn => ?_
      unfold val
      split
      · rfl
      · obtain ⟨y, hy, -⟩ := c n hn (by omega)
        rw [hy, hk _ _ hy]
theorem Inv.done {m : Memo} {p : Nat} (hI : Inv nx N m) (hp : p < N) (hm : m p = some (-1)) (hc : ∀ n ∈ nx p, n < N → ∃ y, m n = some y ∧ 1 ≤ y) :
    Inv nx N (upd m p ((nx p).foldl (fun b n => max b (val N m n)) 0 + 1)) ∧ 0 ≤ (nx p).foldl (fun b n => max b (val N m n)) 0 := by
  obtain ⟨g0, g1⟩ := foldl_max_ge (val N m) (nx p) 0
  generalize hx : (nx p).foldl (fun b n => max b (val N m n)) 0 = X at *
  refine ⟨?_, g0⟩
  have hk : ∀ q y, m q = some y → 1 ≤ y → upd m p (X + 1) q = some y := fun q y hq h1 => by rw [upd_ne (by rintro rfl; rw [hm] at hq; cases hq; omega)]; exact hq
  have hd : dn N m + 1 ≤ dn N (upd m p (X + 1)) := by
    refine filt_lt _ _ _ (fun q _ hq => ?_) p (List.mem_range.2 hp) (by rw [hm]; rfl) (by rw [upd_same]; simp; omega)
    by_cases hqp : q = p
    · subst hqp; rw [upd_same]; simp; omega
    · rw [upd_ne hqp]; exact hq
  have hv : ∀ n, (n < N → ∃ y, m n = some y ∧ 1 ≤ y) → val N (upd m p (X + 1)) n = val N m n := by
    intro n hn
    unfold val
    split
    · rfl
    · obtain ⟨y, hy, h1⟩ := hn (by omega)
      rw [hy, hk _ _ hy h1]
  intro q x hq
  by_cases hqp : q = p
  · subst hqp
    rw [upd_same] at hq
    cases hq
    refine ⟨hp, .inr ⟨by omega, ?_, fun n hn hN => ?_, ?_⟩⟩
    · have : X ≤ dn N m := by
        rw [← hx]
        refine foldl_max_le _ _ (by omega) fun n hn => ?_
        unfold val
        split
        · omega
        · obtain ⟨y, hy, h1⟩ := hc n hn (by omega)
          rw [hy]
          have := (hI n y hy).2
          rcases this with h | h
          · omega
          · exact h.2.1
      omega
    · obtain ⟨y, hy, h1⟩ := hc n hn hN
      refine ⟨y, hk _ _ hy h1, h1, ?_⟩
      have := g1 n hn
      unfold val at this
      rw [if_neg (by omega), hy] at this
      simpa using this
    · rw [← hx]
      congr 1
      exact foldl_max_congr _ _ fun n hn => (by rw [hx]; exact (hv n (hc n hn)).symm)
  · rw [upd_ne hqp] at hq
    obtain ⟨h1, h2⟩ := hI q x hq
    refine ⟨h1, h2.imp id ?_⟩
    rintro ⟨a, b, c, d⟩
    refine ⟨a, by omega, fun n hn hN => ?_, ?_⟩
    · obtain ⟨y, hy, h3, r⟩ := c n hn hN
      exact ⟨y, hk _ _ hy h3, h3, r⟩
    · rw [d]
      congr 1
      exact foldl_max_congr _ _ fun n hn => (hv n fun hN => by obtain ⟨y, hy, h3, -⟩ := c n hn hN; exact ⟨y, hy, h3⟩).symm

theorem lng_of : ∀ (f : Nat) (m : Memo) (p : Nat), Inv nx N m → N < f + kn N m →
    Went nx N m (lng nx N f (m, false) p).2.1 (lng nx N f (m, false) p).2.2 [p] ∧ ((lng nx N f (m, false) p).2.2 = false → (lng nx N f (m, false) p).1 = val N (lng nx N f (m, false) p).2.1 p)
  | 0, m, p, hI, hf => by have := kn_max (N := N) m; omega
  | f + 1, m, p, hI, hf => by
    by_cases hN : N ≤ p
    · rw [lng_out nx N (.inl hN)]
      exact ⟨⟨fun _ => ⟨Knows.refl m, hI, fun q hq => by simp [hq], fun q hq h => by simp at hq; omega⟩, fun h => by cases h⟩, fun _ => by unfold val; rw [if_pos hN]⟩
    · cases hm : m p with
      | some n =>
        rw [lng_old nx N (by omega) rfl hm]
        obtain ⟨-, h2⟩ := hI p n hm
        refine ⟨⟨fun h => ⟨Knows.refl m, hI, fun q hq => by simp [hq], fun q hq _ => ?_⟩, fun h => ?_⟩, fun h => ?_⟩
        · simp at hq
          subst hq
          exact ⟨n, hm, by simp at h; rcases h2 with h2 | h2 <;> omega⟩
        · simp at h
          refine ⟨p, List.mem_singleton.2 rfl, .inr ⟨p, ?_, .start (List.mem_singleton.2 rfl)⟩⟩
          rw [hm]
          rcases h2 with h2 | h2
          · rw [h2]
          · omega
        · unfold val
          rw [if_neg hN]
          show n = (m p).getD 0
          rw [hm]
          rfl
      | none =>
        rw [lng_new nx N (by omega) rfl hm]
        have hI1 := hI.start (p := p) (by omega) hm
        have hk1 : kn N m + 1 ≤ kn N (upd m p (-1)) := by
          refine filt_lt _ _ _ (fun q _ hq => ?_) p (List.mem_range.2 (by omega)) (by rw [hm]; rfl) (by rw [upd_same]; rfl)
          by_cases hqp : q = p
          · subst hqp; rw [upd_same]; rfl
          · rw [upd_ne hqp]; exact hq
        have hfp : 0 < f := by have := kn_max (N := N) (upd m p (-1)); omega
        obtain ⟨⟨w1, w2⟩, w3⟩ := lfold_of (nx := nx) (N := N) (f := f) (c := kn N m + 1) (fun m' q hI' hc => lng_of f m' q hI' (by omega)) (fun S q h => by
          obtain ⟨f', rfl⟩ : ∃ f', f = f' + 1 := ⟨f - 1, by omega⟩
          exact lng_out nx N (.inr h)) (nx p) (upd m p (-1)) 0 hI1 hk1
        show Went nx N m (upd ((nx p).foldl (lstep nx N f) ((0 : Int), ((upd m p (-1), false) : Memo × Bool))).2.1 p (((nx p).foldl (lstep nx N f) ((0 : Int), ((upd m p (-1), false) : Memo × Bool))).1 + 1)) ((nx p).foldl (lstep nx N f) ((0 : Int), ((upd m p (-1), false) : Memo × Bool))).2.2 [p] ∧ _
        generalize (nx p).foldl (lstep nx N f) ((0 : Int), ((upd m p (-1), false) : Memo × Bool)) = R at *
        obtain ⟨v, m1, b1⟩ := R
        simp only at w1 w2 w3 ⊢
        refine ⟨⟨fun h => ?_, fun h => ?_⟩, fun h => ?_⟩
        · obtain ⟨k1, k2, k3, k4⟩ := w1 h
          have hpm := k1 p (-1) (upd_same _ _ _)
          obtain ⟨d1, d2⟩ := k2.done (by omega) hpm k4
          rw [← w3 h] at d1 d2
          refine ⟨fun q x hq => ?_, d1, fun q hq => ?_, fun q hq hqN => ?_⟩
          · have hne : q ≠ p := by rintro rfl; rw [hm] at hq; cases hq
            rw [upd_ne hne]
            exact k1 q x (by rw [upd_ne hne]; exact hq)
          · by_cases hqp : q = p
            · subst hqp; rw [upd_same]; simp; omega
            · rw [upd_ne hqp]; exact k3 q (by rw [upd_ne hqp]; exact hq)
          · simp at hq
            subst hq
            exact ⟨v + 1, upd_same _ _ _, by omega⟩
        · obtain ⟨n, hn, h1⟩ := w2 h
          refine ⟨p, List.mem_singleton.2 rfl, ?_⟩
          have hpn : Reach nx N [p] n := .step (.start (List.mem_singleton.2 rfl)) (by omega) hn
          rcases h1 with ⟨q, hq, hr, hl⟩ | ⟨q, hq, hr⟩
          · exact .inl ⟨q, hq, hpn.trans hr, hl⟩
          · by_cases hqp : q = p
            · subst hqp
              exact .inl ⟨q, by omega, .start (List.mem_singleton.2 rfl), Reach.trans (.start hn) hr⟩
            · exact .inr ⟨q, by rw [upd_ne hqp] at hq; exact hq, hpn.trans hr⟩
        · unfold val
          rw [if_neg hN, upd_same]
          rfl
end

section
variable {nx : Nat → List Nat} {N : Nat}
theorem lng_true : ∀ (f : Nat) (S : Memo × Bool) (p : Nat), S.2 = true → lng nx N f S p = (0, S)
  | 0, _, _, _ => rfl
  | f + 1, _, _, h => lng_out nx N (.inr h)
theorem kn_upd {m : Memo} {p : Nat} (hp : p < N) (hm : m p = none) (x : Int) : kn N m + 1 ≤ kn N (upd m p x) := by
  refine filt_lt _ _ _ (fun q _ hq => ?_) p (List.mem_range.2 hp) (by rw [hm]; rfl) (by rw [upd_same]; rfl)
  by_cases hqp : q = p
  · subst hqp; rw [upd_same]; rfl
  · rw [upd_ne hqp]; exact hq
theorem lfold_went {f : Nat} {m : Memo} (hI : Inv nx N m) (hf : N < f + kn N m) (ns : List Nat) (b0 : Int) :
    Went nx N m (ns.foldl (lstep nx N f) (b0, (m, false))).2.1 (ns.foldl (lstep nx N f) (b0, (m, false))).2.2 ns :=
  (lfold_of (nx := nx) (N := N) (f := f) (c := kn N m) (fun m' q hI' hc => lng_of f m' q hI' (by omega)) (fun S q h => lng_true f S q h) ns m b0 hI (Nat.le_refl _)).1
theorem lfold_bd {f : Nat} {B : Int} (hB : 0 ≤ B) (hg : ∀ (m : Memo) (p : Nat), Inv nx N m → N < f + kn N m → -1 ≤ (lng nx N f (m, false) p).1 ∧ (lng nx N f (m, false) p).1 ≤ B) :
    ∀ (ns : List Nat) (a : Int × (Memo × Bool)), (a.2.2 = false → Inv nx N a.2.1 ∧ N < f + kn N a.2.1) → 0 ≤ a.1 ∧ a.1 ≤ B → 0 ≤ (ns.foldl (lstep nx N f) a).1 ∧ (ns.foldl (lstep nx N f) a).1 ≤ B
  | [], a, _, h => h
  | n :: ns, a, hI, h => by
    rw [List.foldl_cons]
    obtain ⟨b, m, lb⟩ := a
    cases lb
    · obtain ⟨h1, h2⟩ := hI rfl
      have h3 := hg m n h1 h2
      have h4 := lng_of f m n h1 h2
      refine lfold_bd hB hg ns _ (fun hf => ?_) ?_
      · obtain ⟨k1, k2, -, -⟩ := h4.1.1 hf
        exact ⟨k2, Nat.lt_of_lt_of_le h2 (Nat.add_le_add_left k1.kn f)⟩
      · show 0 ≤ max b (lng nx N f (m, false) n).1 ∧ max b (lng nx N f (m, false) n).1 ≤ B
        simp only at h
        omega
    · have e : lstep nx N f (b, (m, true)) n = (max b 0, (m, true)) := by
        show (max b (lng nx N f (m, true) n).1, (lng nx N f (m, true) n).2) = _
        rw [lng_true f (m, true) n rfl]
      rw [e]
      refine lfold_bd hB hg ns _ (fun hf => by cases hf) ?_
      simp only at h ⊢
      omega
theorem lng_bd : ∀ (f : Nat) (m : Memo) (p : Nat), Inv nx N m → N < f + kn N m → -1 ≤ (lng nx N f (m, false) p).1 ∧ (lng nx N f (m, false) p).1 ≤ (N : Int) + f
  | 0, m, p, _, hf => by have := kn_max (N := N) m; omega
  | f + 1, m, p, hI, hf => by
    by_cases hN : N ≤ p
    · rw [lng_out nx N (.inl hN)]; simp only; omega
    · cases hm : m p with
      | some n =>
        rw [lng_old nx N (by omega) rfl hm]
        obtain ⟨-, h2⟩ := hI p n hm
        have := dn_max (N := N) m
        simp only
        rcases h2 with h2 | h2
        · omega
        · have := h2.2.1; omega
      | none =>
        rw [lng_new nx N (by omega) rfl hm]
        have h1 := kn_upd (N := N) (p := p) (by omega) hm (-1)
        have := lfold_bd (nx := nx) (N := N) (f := f) (B := N + f) (by omega) (fun m' q hI' hf' => lng_bd f m' q hI' hf') (nx p) ((0 : Int), ((upd m p (-1), false) : Memo × Bool)) (fun _ => ⟨hI.start (by omega) hm, by simp only; omega⟩) ⟨by simp only; omega, by simp only; omega⟩
        simp only
        omega
/-- Half gone over what may follow. -/
theorem lprefix {f p : Nat} {m : Memo} (hI : Inv nx N m) (hp : p < N) (hm : m p = none) (hf : N < f + 1 + kn N m) (ns : List Nat) :
    ((ns.foldl (lstep nx N f) ((0 : Int), ((upd m p (-1), false) : Memo × Bool))).2.2 = false → Inv nx N (ns.foldl (lstep nx N f) ((0 : Int), ((upd m p (-1), false) : Memo × Bool))).2.1 ∧ N < f + kn N (ns.foldl (lstep nx N f) ((0 : Int), ((upd m p (-1), false) : Memo × Bool))).2.1) ∧
      0 ≤ (ns.foldl (lstep nx N f) ((0 : Int), ((upd m p (-1), false) : Memo × Bool))).1 ∧ (ns.foldl (lstep nx N f) ((0 : Int), ((upd m p (-1), false) : Memo × Bool))).1 ≤ (N : Int) + f := by
  have h1 := kn_upd (N := N) (p := p) hp hm (-1)
  have hI1 := hI.start (p := p) hp hm
  have hf1 : N < f + kn N (upd m p (-1)) := by omega
  refine ⟨fun h => ?_, lfold_bd (by omega) (fun m' q hI' hf' => lng_bd f m' q hI' hf') ns _ (fun _ => ⟨hI1, hf1⟩) ⟨by simp only; omega, by simp only; omega⟩⟩
  obtain ⟨k1, k2, -, -⟩ := (lfold_went hI1 hf1 ns 0).1 h
  exact ⟨k2, Nat.lt_of_lt_of_le hf1 (Nat.add_le_add_left k1.kn f)⟩
end

section
variable (nx : Nat → List Nat) (N : Nat)
/-- May a way meet itself? -/
def loopF : Bool := (List.range N).any fun p => mk (fromF nx N [0]) p && mk (fromF nx N (nx p)) p
def bestOne (s : List Int) (p : Nat) : List Int := s.set p (min ((nx p).foldl (fun b n => max b (s.getD n 0)) 0 + 1) N)
def bestRound (s : List Int) : List Int := (List.range N).foldl (bestOne nx N) s
def bestRounds : Nat → List Int → List Int
  | 0, s => s
  | k + 1, s => bestRound nx N (bestRounds k s)
def bestF : Int := (bestRounds nx N N (List.replicate (N + 1) 0)).getD 0 0
end
section
variable {nx : Nat → List Nat} {N : Nat}
theorem bestOne_len (s : List Int) (p : Nat) : (bestOne nx N s p).length = s.length := by unfold bestOne; simp
theorem getD_set {s : List Int} {p q : Nat} {x : Int} (hp : p < s.length) : (s.set p x).getD q 0 = if q = p then x else s.getD q 0 := by
  simp only [List.getD_eq_getElem?_getD, List.getElem?_set]
  by_cases h : p = q
  · subst h; simp [hp]
  · rw [if_neg h, if_neg (fun e => h e.symm)]
theorem best_fold {m : Memo} (hI : Inv nx N m) (hng : ∀ q, m q ≠ some (-1)) (k : Nat) : ∀ (ps : List Nat) (s : List Int), s.length = N + 1 → (∀ p ∈ ps, p < N) → s.getD N 0 = 0 → (∀ q x, m q = some x → x ≤ k → s.getD q 0 = x) →
    (ps.foldl (bestOne nx N) s).length = N + 1 ∧ (ps.foldl (bestOne nx N) s).getD N 0 = 0 ∧ (∀ q x, m q = some x → x ≤ k → (ps.foldl (bestOne nx N) s).getD q 0 = x) ∧
      (∀ q x, m q = some x → x ≤ k + 1 → (q ∈ ps ∨ s.getD q 0 = x) → (ps.foldl (bestOne nx N) s).getD q 0 = x)
  | [], s, hl, _, hz, hs => ⟨hl, hz, hs, fun q x _ _ h => h.resolve_left (by simp)⟩
  | p :: ps, s, hl, hp, hz, hs => by
    have hpN := hp p (List.mem_cons_self ..)
    have key : ∀ x, m p = some x → x ≤ k + 1 → (bestOne nx N s p).getD p 0 = x := by
      intro x hx hk
      obtain ⟨-, h2⟩ := hI p x hx
      rcases h2 with h2 | ⟨h1, h2, h3, h4⟩
      · exact absurd (by rw [hx, h2]) (hng p)
      · unfold bestOne
        rw [getD_set (by omega), if_pos rfl]
        have e : (nx p).foldl (fun b n => max b (s.getD n 0)) 0 = (nx p).foldl (fun b n => max b (val N m n)) 0 := by
          refine foldl_max_congr _ _ fun n hn => ?_
          unfold val
          by_cases hN : N ≤ n
          · rw [if_pos hN]
            by_cases hnN : n = N
            · rw [hnN]; exact hz
            · rw [List.getD_eq_getElem?_getD, List.getElem?_eq_none (by omega)]; rfl
          · rw [if_neg hN]
            obtain ⟨y, hy, h5, h6⟩ := h3 n hn (by omega)
            rw [hy]
            exact hs n y hy (by omega)
        have := dn_max (N := N) m
        rw [e, ← h4]
        omega
    have hl1 : (bestOne nx N s p).length = N + 1 := (bestOne_len s p).trans hl
    have hz1 : (bestOne nx N s p).getD N 0 = 0 := by
      unfold bestOne
      rw [getD_set (by omega), if_neg (by omega)]
      exact hz
    have hs1 : ∀ q x, m q = some x → x ≤ k → (bestOne nx N s p).getD q 0 = x := by
      intro q x hq hk
      by_cases hqp : q = p
      · subst hqp; exact key x hq (by omega)
      · unfold bestOne
        rw [getD_set (by omega), if_neg hqp]
        exact hs q x hq hk
    obtain ⟨k1, k2, k3, k4⟩ := best_fold hI hng k ps (bestOne nx N s p) hl1 (fun q hq => hp q (List.mem_cons_of_mem _ hq)) hz1 hs1
    rw [List.foldl_cons]
    refine ⟨k1, k2, k3, fun q x hq hk h => k4 q x hq hk ?_⟩
    by_cases hqp : q = p
    · subst hqp; exact .inr (key x hq hk)
    · rcases h with h | h
      · exact .inl ((List.mem_cons.1 h).resolve_left hqp)
      · refine .inr ?_
        unfold bestOne
        rw [getD_set (by omega), if_neg hqp]
        exact h
theorem best_rounds {m : Memo} (hI : Inv nx N m) (hng : ∀ q, m q ≠ some (-1)) : ∀ k : Nat, (bestRounds nx N k (List.replicate (N + 1) 0)).length = N + 1 ∧ (bestRounds nx N k (List.replicate (N + 1) 0)).getD N 0 = 0 ∧ ∀ q x, m q = some x → x ≤ k → (bestRounds nx N k (List.replicate (N + 1) 0)).getD q 0 = x
  | 0 => by
    refine ⟨by simp [bestRounds], by simp [bestRounds], fun q x hq hk => ?_⟩
    obtain ⟨-, h2⟩ := hI q x hq
    rcases h2 with h2 | h2
    · exact absurd (by rw [hq, h2]) (hng q)
    · have := h2.1; omega
  | k + 1 => by
    obtain ⟨h1, h2, h3⟩ := best_rounds hI hng k
    obtain ⟨k1, k2, k3, k4⟩ := best_fold hI hng k (List.range N) _ h1 (fun p hp => List.mem_range.1 hp) h2 h3
    exact ⟨k1, k2, fun q x hq hk => k4 q x hq (by omega) (.inl (List.mem_range.2 (hI q x hq).1))⟩
theorem bestRounds_len : ∀ k : Nat, (bestRounds nx N k (List.replicate (N + 1) 0)).length = N + 1
  | 0 => by simp [bestRounds]
  | k + 1 => by
    show (bestRound nx N _).length = _
    unfold bestRound
    have : ∀ (ps : List Nat) (s : List Int), (ps.foldl (bestOne nx N) s).length = s.length := by
      intro ps
      induction ps with
      | nil => exact fun s => rfl
      | cons p ps ih => intro s; rw [List.foldl_cons, ih, bestOne_len]
    rw [this]
    exact bestRounds_len k

/-- The walk and the rounds agree. -/
theorem lng_best (hb : ∀ p, p < N → ∀ n ∈ nx p, n ≤ N) : (lng nx N (N + 1) ((fun _ => none), false) 0).2.2 = loopF nx N ∧ (loopF nx N = false → (lng nx N (N + 1) ((fun _ => none), false) 0).1 = if N = 0 then 0 else bestF nx N) := by
  have hI0 : Inv nx N (fun _ => none) := fun q x h => by cases h
  obtain ⟨⟨w1, w2⟩, w3⟩ := lng_of (nx := nx) (N := N) (N + 1) (fun _ => none) 0 hI0 (by omega)
  have hrange : loopF nx N = true ↔ ∃ q, q < N ∧ Reach nx N [0] q ∧ Reach nx N (nx q) q := by
    unfold loopF
    rw [List.any_eq_true]
    constructor
    · rintro ⟨q, hq, h⟩
      have hqN := List.mem_range.1 hq
      rw [Bool.and_eq_true, fromF_iff hb (by simp) q, fromF_iff hb (hb q hqN) q] at h
      exact ⟨q, hqN, h⟩
    · rintro ⟨q, hqN, h1, h2⟩
      refine ⟨q, List.mem_range.2 hqN, ?_⟩
      rw [Bool.and_eq_true, fromF_iff hb (by simp) q, fromF_iff hb (hb q hqN) q]
      exact ⟨h1, h2⟩
  generalize lng nx N (N + 1) ((fun _ => none), false) 0 = R at *
  obtain ⟨v, m, b⟩ := R
  simp only at w1 w2 w3 ⊢
  cases b
  · obtain ⟨-, k2, k3, k4⟩ := w1 rfl
    have hng : ∀ q, m q ≠ some (-1) := fun q => k3 q trivial
    have hno : loopF nx N = false := by
      cases hl : loopF nx N
      · rfl
      · obtain ⟨q, hqN, h1, h2⟩ := hrange.1 hl
        exfalso
        have clo : ∀ p, (p < N → ∃ x, m p = some x) → p < N → ∀ n ∈ nx p, n < N → ∃ x, m n = some x := by
          intro p h hp n hn hN
          obtain ⟨x, hx⟩ := h hp
          obtain ⟨-, h5⟩ := k2 p x hx
          rcases h5 with h5 | h5
          · exact absurd (by rw [hx, h5]) (hng p)
          · obtain ⟨y, hy, -⟩ := h5.2.2.1 n hn hN
            exact ⟨y, hy⟩
        have hq : q < N → ∃ x, m q = some x := h1.closed (Q := fun q => q < N → ∃ x, m q = some x) (fun p hp hN => by obtain ⟨x, hx, -⟩ := k4 p hp hN; exact ⟨x, hx⟩) clo
        obtain ⟨x, hx⟩ := hq hqN
        have lt : ∀ p, (p < N → ∃ y, m p = some y ∧ y + 1 ≤ x) → p < N → ∀ n ∈ nx p, n < N → ∃ y, m n = some y ∧ y + 1 ≤ x := by
          intro p h hp n hn hN
          obtain ⟨y, hy, hyx⟩ := h hp
          obtain ⟨-, h5⟩ := k2 p y hy
          rcases h5 with h5 | h5
          · exact absurd (by rw [hy, h5]) (hng p)
          · obtain ⟨z, hz, -, h7⟩ := h5.2.2.1 n hn hN
            exact ⟨z, hz, by omega⟩
        have hc : q < N → ∃ y, m q = some y ∧ y + 1 ≤ x := h2.closed (Q := fun p => p < N → ∃ y, m p = some y ∧ y + 1 ≤ x) (fun n hn hN => by
          obtain ⟨-, h5⟩ := k2 q x hx
          rcases h5 with h5 | h5
          · exact absurd (by rw [hx, h5]) (hng q)
          · obtain ⟨z, hz, -, h7⟩ := h5.2.2.1 n hn hN
            exact ⟨z, hz, h7⟩) lt
        obtain ⟨y, hy, hyx⟩ := hc hqN
        rw [hx] at hy
        cases hy
        omega
    refine ⟨hno.symm, fun _ => ?_⟩
    rw [w3 rfl]
    unfold val
    by_cases h0 : N = 0
    · rw [if_pos (by omega), if_pos h0]
    · rw [if_neg (by omega), if_neg h0]
      obtain ⟨x, hx, -⟩ := k4 0 (List.mem_singleton.2 rfl) (by omega)
      obtain ⟨-, -, h3⟩ := best_rounds k2 hng N
      unfold bestF
      rw [h3 0 x hx ?_, hx]
      · rfl
      · obtain ⟨-, h5⟩ := k2 0 x hx
        rcases h5 with h5 | h5
        · exact absurd (by rw [hx, h5]) (hng 0)
        · have := dn_max (N := N) m; have := h5.2.1; omega
  · have : loopF nx N = true := by
      obtain ⟨p, hp, h1⟩ := w2 rfl
      simp at hp
      subst hp
      rcases h1 with ⟨q, h1, h2, h3⟩ | ⟨q, h1, -⟩
      · exact hrange.2 ⟨q, h1, h2, h3⟩
      · cases h1
    exact ⟨this.symm, fun h => by rw [this] at h; cases h⟩
end
end Go.RR
