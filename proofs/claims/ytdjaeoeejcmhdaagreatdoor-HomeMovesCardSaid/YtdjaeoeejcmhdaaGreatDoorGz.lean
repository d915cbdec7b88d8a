/- Tables with their stock of frames: what mapping a page does to them. Plain, no program. No condition. -/
import Derived.Test.YtdjaeoeejcmhdaaGreatDoorGj
import Derived.Test.YtdjaeoeejcmhdaaGreatDoorGk
set_option linter.unusedVariables false
set_option linter.unusedSimpArgs false
namespace Go.Proofs.YtdjaeoeejcmhdaaGreatDoor
open Go.RowKit Go.RR
theorem getW_zeros {b : By} {a n : Nat} (h : ∀ i, i < n → b (a + i) = 0) : getW b a n = 0 := by
  rw [getW_bytes 0 n a b fun i hi => by rw [h i hi, Nat.zero_div]]
  exact Nat.zero_mod _
theorem pteW_ptr_ne (f : Nat) : pteW (ptrP f) ≠ 0 := by
  unfold pteW
  have : flags (ptrP f) = 1 := rfl
  omega
/-- A place in a list of places is filled. -/
def setO {α : Type} (g : Nat → Option α) (k : Nat) (v : α) : Nat → Option α := fun j => if j = k then some v else g j
theorem setO_same {α : Type} {g : Nat → Option α} {k : Nat} {v : α} (h : g k = some v) : setO g k v = g := by
  funext j
  unfold setO
  split
  · rename_i e; rw [e, h]
  · rfl
theorem setO_at {α : Type} (g : Nat → Option α) (k : Nat) (v : α) : setO g k v k = some v := if_pos rfl
theorem setO_ne {α : Type} (g : Nat → Option α) {k j : Nat} (v : α) (h : j ≠ k) : setO g k v j = g j := if_neg h
structure TInv (fr root : Nat) (t : Tst) (t1 t0 : Nat → Option Nat) (lf : Nat → Option Pte) : Prop where
  tab : TabOk t.b fr root t1 t0 lf
  nx : t.s.next ≤ t.s.fin
  fin : t.s.fin ≤ fr
  lo : ∀ f, IsTab root t1 t0 f → f < t.s.next
  i1 : ∀ i j f, i < 512 → j < 512 → t1 i = some f → t1 j = some f → i = j
  i0 : ∀ i j f, i < 262144 → j < 262144 → t0 i = some f → t0 j = some f → i = j
  d : ∀ i j f, i < 512 → j < 262144 → t1 i = some f → t0 j ≠ some f
  r1 : ∀ i, i < 512 → t1 i ≠ some root
  r0 : ∀ i, i < 262144 → t0 i ≠ some root
/-- The memory behind a new table: f, pointed to from the place i of g. -/
def leadB (b : By) (g i f : Nat) : By := putW (zeroPg b f) (g * 4096 + 8 * i) 8 (pteW (ptrP f))
theorem leadB_new (b : By) {g i f : Nat} (hi : i < 512) (hg : g ≠ f) {k : Nat} (hk : k < 512) : getW (leadB b g i f) (f * 4096 + 8 * k) 8 = 0 := by
  unfold leadB
  rw [getW_put_ne _ (by omega)]
  exact getW_zeros fun j hj => if_pos (by omega)
theorem leadB_at (b : By) (g i f : Nat) : getW (leadB b g i f) (g * 4096 + 8 * i) 8 = pteW (ptrP f) := by
  unfold leadB
  rw [getW_put]
  exact Nat.mod_eq_of_lt (Nat.lt_trans (pteW_lt _) (by decide))
theorem leadB_old (b : By) {g i f h j : Nat} (hi : i < 512) (hj : j < 512) (hf : h ≠ f) (hg : h ≠ g ∨ j ≠ i) : getW (leadB b g i f) (h * 4096 + 8 * j) 8 = getW b (h * 4096 + 8 * j) 8 := by
  unfold leadB
  rw [getW_put_ne _ (by omega)]
  exact getW_congr 8 _ fun a h1 h2 => if_neg (by omega)
theorem leadB_off (b : By) {g i f a : Nat} (hi : i < 512) (h1 : a / 4096 ≠ g) (h2 : a / 4096 ≠ f) : leadB b g i f a = b a := by
  unfold leadB
  rw [putW_out (by omega)]
  exact if_neg h2
theorem take_room {s : Stk} (h : s.next < s.fin) : s.take = some (s.next, { s with next := s.next + 1, taken := addN s.taken s.next }) := if_pos h
theorem lead_some {t : Tst} {place f : Nat} (h : getW t.b place 8 = pteW (ptrP f)) (hf : f < 2 ^ 44) : leadF t place = ((f, 0), t) := by
  unfold leadF
  rw [if_pos (by rw [h]; exact pteW_ptr_ne f), h, pteG_W (ptr_ok hf)]
  rfl
theorem lead_none {t : Tst} {place : Nat} (h : getW t.b place 8 = 0) (hr : t.s.next < t.s.fin) : leadF t place = ((t.s.next, 0), ⟨putW (zeroPg t.b t.s.next) place 8 (pteW (ptrP t.s.next)), { t.s with next := t.s.next + 1, taken := addN t.s.taken t.s.next }, t.used + 1⟩) := by
  unfold leadF
  rw [if_neg (by rw [h]; simp)]
  unfold tabTake
  rw [take_room hr]
  rfl
/-- What a way down to a table may change. -/
structure Led (t t' : Tst) (f : Nat) (isT isT' : Nat → Prop) : Prop where
  fin : t'.s.fin = t.s.fin
  nx : t.s.next ≤ t'.s.next
  off : ∀ a, ¬ isT (a / 4096) → a / 4096 < t.s.next → t'.b a = t.b a
  tab : ∀ f, isT' f → isT f ∨ t.s.next ≤ f
  sub : ∀ f, isT f → isT' f
theorem lead_one {fr root : Nat} {t : Tst} {t1 t0 : Nat → Option Nat} {lf : Nat → Option Pte} (h : TInv fr root t t1 t0 lf) (hf : fr ≤ 1048576) {i : Nat} (hi : i < 512) (hr : t1 i = none → t.s.next < t.s.fin) :
    ∃ f t', leadF t (root * 4096 + 8 * i) = ((f, 0), t') ∧ f < fr ∧ TInv fr root t' (setO t1 i f) t0 lf ∧ t'.s.next = (t.s.next + if (t1 i).isNone then 1 else 0) ∧ Led t t' f (IsTab root t1 t0) (IsTab root (setO t1 i f) t0) := by
  have e1 := h.tab.e1 i hi
  cases ht : t1 i with
  | some f =>
    rw [ht] at e1
    have hff := (h.tab.e0 i f hi ht).1
    refine ⟨f, t, lead_some e1 (by omega), hff, ?_, rfl, ?_⟩
    · rw [setO_same ht]; exact h
    · rw [setO_same ht]; exact ⟨rfl, Nat.le_refl _, fun _ _ _ => rfl, fun _ e => .inl e, fun _ e => e⟩
  | none =>
    rw [ht] at e1
    have hlt := hr ht
    have hfin := h.fin
    have hroot := h.lo root (.inl rfl)
    have hlo := h.lo
    refine ⟨_, _, lead_none e1 hlt, by omega, ?_, rfl, ?_⟩
    · have hT := h.tab
      have not0 : ∀ j, j < 512 → t0 (512 * i + j) = none := fun j hj => by
        cases e : t0 (512 * i + j) with
        | none => rfl
        | some g =>
          have := (hT.el (512 * i + j) g (by omega) e).2.1
          rw [show (512 * i + j) / 512 = i by omega, ht] at this
          cases this
      have lo1 : ∀ j g, j < 512 → t1 j = some g → g < t.s.next := fun j g hj e => hlo g (.inr (.inl ⟨j, hj, e⟩))
      have lo0 : ∀ j g, j < 262144 → t0 j = some g → g < t.s.next := fun j g hj e => hlo g (.inr (.inr ⟨j, hj, e⟩))
      refine ⟨⟨hT.rt, fun j hj => ?_, fun j g hj e => ?_, fun q g hq e => ?_, hT.lk⟩, ?_, ?_, ?_, ?_, h.i0, ?_, ?_, h.r0⟩
      · show getW (leadB t.b root i t.s.next) _ 8 = _
        by_cases hji : j = i
        · subst hji; rw [leadB_at, setO_at]; rfl
        · rw [leadB_old t.b hi hj (by omega) (.inr hji), setO_ne _ _ hji]
          exact hT.e1 j hj
      · by_cases hji : j = i
        · subst hji
          rw [setO_at] at e
          cases e
          refine ⟨by omega, fun k hk => ?_⟩
          show getW (leadB t.b root j t.s.next) _ 8 = _
          rw [leadB_new t.b hi (by omega) hk, not0 k hk]
          rfl
        · rw [setO_ne _ _ hji] at e
          obtain ⟨a1, a2⟩ := hT.e0 j g hj e
          refine ⟨a1, fun k hk => ?_⟩
          show getW (leadB t.b root i t.s.next) _ 8 = _
          rw [leadB_old (g := root) (i := i) (h := g) (j := k) t.b hi hk (by have := lo1 j g hj e; omega) (.inl fun e' => h.r1 j hj (e' ▸ e))]
          exact a2 k hk
      · obtain ⟨a1, a2, a3⟩ := hT.el q g hq e
        refine ⟨a1, ?_, fun k hk => ?_⟩
        · by_cases hji : q / 512 = i
          · rw [hji, setO_at]; rfl
          · rw [setO_ne _ _ hji]; exact a2
        · show getW (leadB t.b root i t.s.next) _ 8 = _
          rw [leadB_old (g := root) (i := i) (h := g) (j := k) t.b hi hk (by have := lo0 q g hq e; omega) (.inl fun e' => h.r0 q hq (e' ▸ e))]
          exact a3 k hk
      · show t.s.next + 1 ≤ t.s.fin; omega
      · exact hfin
      · intro g hg
        show g < t.s.next + 1
        rcases hg with rfl | ⟨j, hj, e⟩ | ⟨q, hq, e⟩
        · omega
        · by_cases hji : j = i
          · subst hji; rw [setO_at] at e; cases e; omega
          · rw [setO_ne _ _ hji] at e; have := lo1 j g hj e; omega
        · have := lo0 q g hq e; omega
      · intro j k g hj hk ej ek
        by_cases hji : j = i
        · by_cases hki : k = i
          · omega
          · subst hji; rw [setO_at] at ej; cases ej
            rw [setO_ne _ _ hki] at ek
            have := lo1 k _ hk ek; omega
        · rw [setO_ne _ _ hji] at ej
          by_cases hki : k = i
          · subst hki; rw [setO_at] at ek; cases ek
            have := lo1 j _ hj ej; omega
          · rw [setO_ne _ _ hki] at ek
            exact h.i1 j k g hj hk ej ek
      · intro j q g hj hq ej eq
        have := lo0 q g hq eq
        by_cases hji : j = i
        · subst hji; rw [setO_at] at ej; cases ej; omega
        · rw [setO_ne _ _ hji] at ej; exact h.d j q g hj hq ej eq
      · intro j hj e
        by_cases hji : j = i
        · subst hji; rw [setO_at] at e; cases e; omega
        · rw [setO_ne _ _ hji] at e; exact h.r1 j hj e
    · refine ⟨rfl, Nat.le_succ _, fun a ha hn => ?_, fun g hg => ?_, fun g hg => ?_⟩
      · exact leadB_off t.b hi (fun e => ha (.inl e)) (by omega)
      · rcases hg with rfl | ⟨j, hj, e⟩ | e
        · exact .inl (.inl rfl)
        · by_cases hji : j = i
          · subst hji; rw [setO_at] at e; cases e; exact .inr (Nat.le_refl _)
          · rw [setO_ne _ _ hji] at e; exact .inl (.inr (.inl ⟨j, hj, e⟩))
        · exact .inl (.inr (.inr e))
      · rcases hg with rfl | ⟨j, hj, e⟩ | e
        · exact .inl rfl
        · refine .inr (.inl ⟨j, hj, ?_⟩)
          by_cases hji : j = i
          · subst hji; rw [ht] at e; cases e
          · rw [setO_ne _ _ hji]; exact e
        · exact .inr (.inr e)
theorem lead_two {fr root : Nat} {t : Tst} {t1 t0 : Nat → Option Nat} {lf : Nat → Option Pte} (h : TInv fr root t t1 t0 lf) (hf : fr ≤ 1048576) {i j g : Nat} (hi : i < 512) (hj : j < 512) (hg : t1 i = some g) (hr : t0 (512 * i + j) = none → t.s.next < t.s.fin) :
    ∃ f t', leadF t (g * 4096 + 8 * j) = ((f, 0), t') ∧ f < fr ∧ TInv fr root t' t1 (setO t0 (512 * i + j) f) lf ∧ t'.s.next = (t.s.next + if (t0 (512 * i + j)).isNone then 1 else 0) ∧ Led t t' f (IsTab root t1 t0) (IsTab root t1 (setO t0 (512 * i + j) f)) := by
  obtain ⟨hgf, e0⟩ := h.tab.e0 i g hi hg
  have e1 := e0 j hj
  have hq : 512 * i + j < 262144 := by omega
  have hqi : (512 * i + j) / 512 = i := by omega
  have hqj : (512 * i + j) % 512 = j := by omega
  obtain ⟨q, hqq⟩ : ∃ q, 512 * i + j = q := ⟨_, rfl⟩
  rw [hqq] at e1 hr hq hqi hqj ⊢
  cases ht : t0 q with
  | some f =>
    rw [ht] at e1
    have hff := (h.tab.el q f hq ht).1
    refine ⟨f, t, lead_some e1 (by omega), hff, ?_, rfl, ?_⟩
    · rw [setO_same ht]; exact h
    · rw [setO_same ht]; exact ⟨rfl, Nat.le_refl _, fun _ _ _ => rfl, fun _ e => .inl e, fun _ e => e⟩
  | none =>
    rw [ht] at e1
    have hlt := hr ht
    have hfin := h.fin
    have hroot := h.lo root (.inl rfl)
    have hlo := h.lo
    have lo1 : ∀ j g, j < 512 → t1 j = some g → g < t.s.next := fun j g hj e => hlo g (.inr (.inl ⟨j, hj, e⟩))
    have lo0 : ∀ j g, j < 262144 → t0 j = some g → g < t.s.next := fun j g hj e => hlo g (.inr (.inr ⟨j, hj, e⟩))
    have hgn := lo1 i g hi hg
    have hT := h.tab
    have nolf : ∀ k, k < 512 → lf (512 * q + k) = none := fun k hk => by
      cases e : lf (512 * q + k) with
      | none => rfl
      | some p =>
        have := (hT.lk (512 * q + k) p (by omega) e).1
        rw [show (512 * q + k) / 512 = q by omega, ht] at this
        cases this
    refine ⟨_, _, lead_none e1 hlt, by omega, ?_, rfl, ?_⟩
    · refine ⟨⟨hT.rt, fun k hk => ?_, fun k f hk e => ?_, fun k f hk e => ?_, fun v p hv e => ?_⟩, ?_, ?_, ?_, h.i1, ?_, ?_, h.r1, ?_⟩
      · show getW (leadB t.b g j t.s.next) _ 8 = _
        rw [leadB_old (g := g) (i := j) (h := root) (j := k) t.b hj hk (by omega) (.inl fun e' => h.r1 i hi (e' ▸ hg))]
        exact hT.e1 k hk
      · obtain ⟨a1, a2⟩ := hT.e0 k f hk e
        refine ⟨a1, fun m hm => ?_⟩
        have hfn := lo1 k f hk e
        show getW (leadB t.b g j t.s.next) _ 8 = _
        by_cases hfg : f = g
        · subst hfg
          have hki := h.i1 k i f hk hi e hg
          subst hki
          by_cases hmj : m = j
          · subst hmj; rw [leadB_at, hqq, setO_at]; rfl
          · rw [leadB_old t.b hj hm (by omega) (.inr hmj), setO_ne _ _ (by omega)]
            exact a2 m hm
        · rw [leadB_old t.b hj hm (by omega) (.inl hfg), setO_ne]
          · exact a2 m hm
          · intro e2
            have : k = i := by omega
            subst this
            rw [hg] at e
            cases e
            exact hfg rfl
      · by_cases hkq : k = q
        · subst hkq
          rw [setO_at] at e
          cases e
          refine ⟨by omega, by rw [hqi, hg]; rfl, fun m hm => ?_⟩
          show getW (leadB t.b g j t.s.next) _ 8 = _
          rw [leadB_new t.b hj (by omega) hm, nolf m hm]
          rfl
        · rw [setO_ne _ _ hkq] at e
          obtain ⟨a1, a2, a3⟩ := hT.el k f hk e
          refine ⟨a1, a2, fun m hm => ?_⟩
          show getW (leadB t.b g j t.s.next) _ 8 = _
          rw [leadB_old (g := g) (i := j) (h := f) (j := m) t.b hj hm (by have := lo0 k f hk e; omega) (.inl fun e' => h.d i k g hi hk hg (e' ▸ e))]
          exact a3 m hm
      · obtain ⟨a1, a2⟩ := hT.lk v p hv e
        refine ⟨?_, a2⟩
        by_cases hkq : v / 512 = q
        · rw [hkq, setO_at]; rfl
        · rw [setO_ne _ _ hkq]; exact a1
      · show t.s.next + 1 ≤ t.s.fin; omega
      · exact hfin
      · intro f hff
        show f < t.s.next + 1
        rcases hff with rfl | ⟨k, hk, e⟩ | ⟨k, hk, e⟩
        · omega
        · have := lo1 k f hk e; omega
        · by_cases hkq : k = q
          · subst hkq; rw [setO_at] at e; cases e; omega
          · rw [setO_ne _ _ hkq] at e; have := lo0 k f hk e; omega
      · intro k m f hk hm ek em
        by_cases hkq : k = q
        · by_cases hmq : m = q
          · omega
          · subst hkq; rw [setO_at] at ek; cases ek
            rw [setO_ne _ _ hmq] at em
            have := lo0 m _ hm em; omega
        · rw [setO_ne _ _ hkq] at ek
          by_cases hmq : m = q
          · subst hmq; rw [setO_at] at em; cases em
            have := lo0 k _ hk ek; omega
          · rw [setO_ne _ _ hmq] at em
            exact h.i0 k m f hk hm ek em
      · intro k m f hk hm ek em
        have := lo1 k f hk ek
        by_cases hmq : m = q
        · subst hmq; rw [setO_at] at em; cases em; omega
        · rw [setO_ne _ _ hmq] at em; exact h.d k m f hk hm ek em
      · intro k hk e
        by_cases hkq : k = q
        · subst hkq; rw [setO_at] at e; cases e; omega
        · rw [setO_ne _ _ hkq] at e; exact h.r0 k hk e
    · refine ⟨rfl, Nat.le_succ _, fun a ha hn => ?_, fun f hff => ?_, fun f hff => ?_⟩
      · exact leadB_off t.b hj (fun e => ha (.inr (.inl ⟨i, hi, e ▸ hg⟩))) (by omega)
      · rcases hff with rfl | e | ⟨k, hk, e⟩
        · exact .inl (.inl rfl)
        · exact .inl (.inr (.inl e))
        · by_cases hkq : k = q
          · subst hkq; rw [setO_at] at e; cases e; exact .inr (Nat.le_refl _)
          · rw [setO_ne _ _ hkq] at e; exact .inl (.inr (.inr ⟨k, hk, e⟩))
      · rcases hff with rfl | e | ⟨k, hk, e⟩
        · exact .inl rfl
        · exact .inr (.inl e)
        · refine .inr (.inr ⟨k, hk, ?_⟩)
          by_cases hkq : k = q
          · subst hkq; rw [ht] at e; cases e
          · rw [setO_ne _ _ hkq]; exact e
/-- An entry of a last table is laid. -/
theorem TInv.lay {fr root : Nat} {t : Tst} {t1 t0 : Nat → Option Nat} {lf : Nat → Option Pte} (h : TInv fr root t t1 t0 lf) {q k f : Nat} (hq : q < 262144) (hk : k < 512) (hf : t0 q = some f) (w : Nat) (o : Option Pte) (lf' : Nat → Option Pte)
    (hw : w = wordO o) (hwl : w < 2 ^ 64) (h1 : lf' (512 * q + k) = o) (h2 : ∀ v, v ≠ 512 * q + k → lf' v = lf v) (ho : ∀ p, o = some p → p.Ok ∧ rightP8 p = true ∧ leafB p = true) :
    TInv fr root { t with b := putW t.b (f * 4096 + 8 * k) 8 w } t1 t0 lf' := by
  have hT := h.tab
  refine ⟨⟨hT.rt, fun j hj => ?_, fun j g hj e => ?_, fun j g hj e => ?_, fun v p hv e => ?_⟩, h.nx, h.fin, h.lo, h.i1, h.i0, h.d, h.r1, h.r0⟩
  · show getW (putW t.b _ 8 _) _ 8 = _
    have : root ≠ f := fun e => h.r0 q hq (e ▸ hf)
    rw [getW_put_ne _ (by omega)]
    exact hT.e1 j hj
  · obtain ⟨a1, a2⟩ := hT.e0 j g hj e
    refine ⟨a1, fun m hm => ?_⟩
    show getW (putW t.b _ 8 _) _ 8 = _
    have : g ≠ f := fun e' => h.d j q f hj hq (e' ▸ e) hf
    rw [getW_put_ne _ (by omega)]
    exact a2 m hm
  · obtain ⟨a1, a2, a3⟩ := hT.el j g hj e
    refine ⟨a1, a2, fun m hm => ?_⟩
    show getW (putW t.b _ 8 _) _ 8 = _
    by_cases hgf : g = f
    · subst hgf
      have hjq := h.i0 j q g hj hq e hf
      subst hjq
      by_cases hmk : m = k
      · subst hmk
        rw [getW_put, h1, ← hw]
        exact Nat.mod_eq_of_lt hwl
      · rw [getW_put_ne _ (by omega), h2 _ (by omega)]
        exact a3 m hm
    · rw [getW_put_ne _ (by omega), h2]
      · exact a3 m hm
      · intro e2
        have : j = q := by omega
        subst this
        rw [hf] at e
        cases e
        exact hgf rfl
  · by_cases hvk : v = 512 * q + k
    · subst hvk
      rw [show (512 * q + k) / 512 = q by omega, hf]
      exact ⟨rfl, ho p (h1 ▸ e)⟩
    · rw [h2 v hvk] at e
      exact hT.lk v p hv e
theorem mayB_of {p : Pte} (h : mayB p = true) : p.Ok ∧ rightP8 p = true ∧ leafB p = true := by
  unfold mayB mayL at h
  simp only [Bool.and_eq_true, decide_eq_true_eq] at h
  exact ⟨h.1 ▸ pteG_ok _, h.2.1, h.2.2.1⟩
/-- A page is mapped: the tables that lead there are made where they were not. -/
theorem map_tab {fr root : Nat} {t : Tst} {t1 t0 : Nat → Option Nat} {lf : Nat → Option Pte} (h : TInv fr root t t1 t0 lf) (hf : fr ≤ 1048576) {va : Nat} {p : Pte} (hc : canonB va = true) (hm : mayB p = true) (hz : lf (vpn va) = none)
    (room : t.s.next + (if (t1 (vpn va / 262144)).isNone then 1 else 0) + (if (t0 (vpn va / 512)).isNone then 1 else 0) ≤ t.s.fin) :
    ∃ f1 f0, (mapF root t va p).1 = 0 ∧ LedOk fr root t va ∧ TInv fr root (mapF root t va p).2 (setO t1 (vpn va / 262144) f1) (setO t0 (vpn va / 512) f0) (setO lf (vpn va) p) ∧
      (mapF root t va p).2.s.next = t.s.next + (if (t1 (vpn va / 262144)).isNone then 1 else 0) + (if (t0 (vpn va / 512)).isNone then 1 else 0) ∧
      Led t (mapF root t va p).2 0 (IsTab root t1 t0) (IsTab root (setO t1 (vpn va / 262144) f1) (setO t0 (vpn va / 512) f0)) := by
  have hv := vpn_lt va
  have i2 := idx2 va
  have i1 := idx1 va
  have i0 := idx0 va
  obtain ⟨v, hvv⟩ : ∃ v, vpn va = v := ⟨_, rfl⟩
  rw [hvv] at hv i2 i1 i0 hz room ⊢
  have hT := h.tab
  obtain ⟨f1, ta, L1, k1, I1, n1, S1⟩ := lead_one h hf (i := v / 262144) (by omega) (fun e => by rw [e] at room; simp only [Option.isNone_none, if_true] at room; omega)
  have hq : 512 * (v / 262144) + v / 512 % 512 = v / 512 := by omega
  have hva : v = 512 * (v / 512) + v % 512 := by omega
  obtain ⟨f0, tb, L0, k0, I0, n0, S0⟩ := lead_two I1 hf (i := v / 262144) (j := v / 512 % 512) (g := f1) (by omega) (by omega) (setO_at _ _ _) (fun e => by rw [hq] at e; rw [e] at room; simp only [Option.isNone_none, if_true] at room; rw [n1, S1.fin]; omega)
  rw [hq] at I0 n0 S0
  have hel := (I0.tab.el (v / 512) f0 (by omega) (setO_at _ _ _)).2.2 (v % 512) (by omega)
  rw [← hva, hz] at hel
  obtain ⟨g1, g2, g3⟩ := mayB_of hm
  have hmap : mapF root t va p = (0, { tb with b := putW tb.b (f0 * 4096 + 8 * (v % 512)) 8 (pteW p) }) := by
    unfold mapF
    rw [hc, hm, i2, i1, i0]
    simp only [Bool.not_true, Bool.or_self, Bool.false_eq_true, if_false, L1, L0, ne_eq, not_true_eq_false, hel]
    rw [if_neg (by simp [wordO])]
  rw [hmap]
  refine ⟨f1, f0, rfl, ⟨hT.rt, ?_, ?_⟩, ?_, ?_, ?_⟩
  · rw [i2, L1]; exact fun _ => k1
  · rw [i2, i1, L1]; dsimp only; rw [L0]; exact fun _ _ => k0
  · refine I0.lay (q := v / 512) (k := v % 512) (by omega) (by omega) (setO_at _ _ _) _ (some p) _ rfl (Nat.lt_trans (pteW_lt p) (by decide)) ?_ (fun u hu => setO_ne _ _ (by omega)) fun p' e => by cases e; exact ⟨g1, g2, g3⟩
    rw [← hva]
    exact setO_at _ _ _
  · show tb.s.next = _
    rw [n0, n1]
  · refine ⟨S0.fin.trans S1.fin, Nat.le_trans S1.nx S0.nx, fun a ha hn => ?_, fun f hff => ?_, fun f hff => S0.sub f (S1.sub f hff)⟩
    · have hb : ¬ IsTab root (setO t1 (v / 262144) f1) t0 (a / 4096) := fun e => (S1.tab _ e).elim ha fun e => by omega
      have hc' : ¬ IsTab root (setO t1 (v / 262144) f1) (setO t0 (v / 512) f0) (a / 4096) := fun e => (S0.tab _ e).elim hb fun e => by have := S1.nx; omega
      show putW tb.b _ 8 _ a = _
      have : a / 4096 ≠ f0 := fun e => hc' (.inr (.inr ⟨v / 512, by omega, by rw [setO_at, e]⟩))
      rw [putW_out (by omega), S0.off a hb (by have := S1.nx; omega)]
      exact S1.off a ha hn
    · exact (S0.tab f hff).elim (S1.tab f) fun e => .inr (by have := S1.nx; omega)
end Go.Proofs.YtdjaeoeejcmhdaaGreatDoor
