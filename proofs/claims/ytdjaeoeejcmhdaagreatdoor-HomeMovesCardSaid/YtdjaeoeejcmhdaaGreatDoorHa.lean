/- Pages mapped one behind the other; what a unit answers by its tables. Plain, no program. No condition. Spaces: what holds of every space that was made and whose pages' rights were set. Plain, no program. No condition. -/
import Derived.Test.YtdjaeoeejcmhdaaGreatDoorGz
import Derived.Test.YtdjaeoeejcmhdaaGreatDoorGp
import Derived.Test.YtdjaeoeejcmhdaaGreatDoorGy
set_option linter.unusedVariables false
set_option linter.unusedSimpArgs false
namespace Go.Proofs.YtdjaeoeejcmhdaaGreatDoor
open Go.RowKit Go.RR
theorem TInv.tk {fr root : Nat} {t : Tst} {t1 t0 : Nat → Option Nat} {lf : Nat → Option Pte} (h : TInv fr root t t1 t0 lf) (hr : t.s.next < t.s.fin) : TInv fr root t.tk t1 t0 lf := ⟨h.tab, hr, h.fin, fun f hf => Nat.lt_succ_of_lt (h.lo f hf), h.i1, h.i0, h.d, h.r1, h.r0⟩
theorem vpn_page {v : Nat} (h : v < 512) : vpn (v * 4096) = v ∧ canonB (v * 4096) = true := by
  refine ⟨by unfold vpn; omega, ?_⟩
  unfold canonB
  rw [decide_eq_true (by omega)]
  rfl
def noneN {α : Type} (o : Option α) : Nat := if o.isNone then 1 else 0
/-- Pages below 2 MiB, one behind the other. -/
theorem lay_tab (e : Nat → Pte) (he : ∀ f, f < 1048576 → mayB (e f) = true) {fr root : Nat} (hf : fr ≤ 1048576) (v0 : Nat) : ∀ (n i : Nat) (t : Tst) (t1 t0 : Nat → Option Nat) (lf : Nat → Option Pte) (out : List Nat), TInv fr root t t1 t0 lf → v0 + i + n ≤ 512 → (∀ k, k < n → lf (v0 + i + k) = none) →
    t.s.next + n + (if n = 0 then 0 else noneN (t1 0) + noneN (t0 0)) ≤ t.s.fin →
    ∃ t1' t0' lf' fs t', layF root (v0 * 4096) e n i t out = ((out ++ fs, 0), t') ∧ LayOk fr root (v0 * 4096) e n i t ∧ TInv fr root t' t1' t0' lf' ∧ fs.length = n ∧ (∀ k, k < n → lf' (v0 + i + k) = some (e (fs.getD k 0))) ∧ (∀ v, v < v0 + i ∨ v0 + i + n ≤ v → lf' v = lf v) ∧
      (∀ f ∈ fs, t.s.next ≤ f ∧ f < t'.s.next ∧ ¬ IsTab root t1' t0' f) ∧ fs.Pairwise (· < ·) ∧ t'.s.next = t.s.next + n + (if n = 0 then 0 else noneN (t1 0) + noneN (t0 0)) ∧ t'.s.fin = t.s.fin ∧
      (∀ j, j ≠ 0 → t1' j = t1 j ∧ t0' j = t0 j) ∧ (n ≠ 0 → (t1' 0).isSome = true ∧ (t0' 0).isSome = true) ∧ (n = 0 → t1' 0 = t1 0 ∧ t0' 0 = t0 0) ∧
      (∀ f, IsTab root t1' t0' f → IsTab root t1 t0 f ∨ t.s.next ≤ f) ∧ (∀ a, ¬ IsTab root t1 t0 (a / 4096) → a / 4096 < t.s.next → t'.b a = t.b a) := by
  intro n
  induction n with
  | zero =>
    intro i t t1 t0 lf out h hv hz room
    exact ⟨t1, t0, lf, [], t, by rw [List.append_nil]; rfl, trivial, h, rfl, fun k hk => absurd hk (by omega), fun _ _ => rfl, fun f hf => absurd hf (List.not_mem_nil), List.Pairwise.nil, by simp, rfl, fun _ _ => ⟨rfl, rfl⟩, fun e => absurd rfl e, fun _ => ⟨rfl, rfl⟩, fun _ e => .inl e, fun _ _ _ => rfl⟩
  | succ n ih =>
    intro i t t1 t0 lf out h hv hz room
    rw [if_neg (by omega)] at room
    have hlt : t.s.next < t.s.fin := by omega
    have ht := h.tk hlt
    obtain ⟨u1, u2⟩ := vpn_page (v := v0 + i) (by omega)
    have ea : v0 * 4096 + i * 4096 = (v0 + i) * 4096 := by omega
    have q1 : (v0 + i) / 262144 = 0 := by omega
    have q0 : (v0 + i) / 512 = 0 := by omega
    have hfin := h.fin
    obtain ⟨f1, f0, m0, m1, m2, m3, m4⟩ := map_tab ht hf (va := (v0 + i) * 4096) (p := e t.s.next) u2 (he _ (by omega)) (by rw [u1]; exact hz 0 (by omega)) (by
      rw [u1, q1, q0]
      show t.s.next + 1 + _ + _ ≤ t.s.fin
      unfold noneN at room
      omega)
    rw [u1, q1, q0] at m2 m3 m4
    have hnx : (mapF root t.tk ((v0 + i) * 4096) (e t.s.next)).2.s.next = t.s.next + 1 + noneN (t1 0) + noneN (t0 0) := m3
    have hfn : (mapF root t.tk ((v0 + i) * 4096) (e t.s.next)).2.s.fin = t.s.fin := m4.fin
    obtain ⟨t1', t0', lf', fs, t', r1, r2, r3, r4, r5, r6, r7, r8, r9, r10, r11, r12, r13, r14, r15⟩ := ih (i + 1) _ _ _ _ (out ++ [t.s.next]) m2 (by omega) (fun k hk => by rw [setO_ne _ _ (by omega)]; have := hz (k + 1) (by omega); rwa [show v0 + (i + 1) + k = v0 + i + (k + 1) by omega]) (by
      rw [hnx, hfn, setO_at, setO_at]
      have : noneN (some f1) = 0 := rfl
      have : noneN (some f0) = 0 := rfl
      split <;> omega)
    have hL : LayOk fr root (v0 * 4096) e (n + 1) i t := ⟨hlt, by rw [ea]; exact m1, by rw [ea]; exact m0, by rw [ea]; exact r2⟩
    have hcost : (if n = 0 then 0 else noneN (setO t1 0 f1 0) + noneN (setO t0 0 f0 0)) = 0 := by rw [setO_at, setO_at]; split <;> rfl
    rw [hcost] at r9
    refine ⟨t1', t0', lf', t.s.next :: fs, t', ?_, hL, r3, by rw [List.length_cons, r4], ?_, ?_, ?_, ?_, ?_, r10.trans hfn, ?_, ?_, ?_, ?_, ?_⟩
    · rw [layF_step hL, ea, r1, List.append_assoc]; rfl
    · intro k hk
      cases k with
      | zero => rw [Nat.add_zero, r6 (v0 + i) (.inl (by omega)), setO_at]; rfl
      | succ k => have := r5 k (by omega); rw [show v0 + (i + 1) + k = v0 + i + (k + 1) by omega] at this; rw [this]; rfl
    · intro v hv'
      rw [r6 v (by omega), setO_ne _ _ (by omega)]
    · intro f hf'
      rcases List.mem_cons.1 hf' with rfl | hf'
      · refine ⟨Nat.le_refl _, by rw [r9, hnx]; omega, fun hT => ?_⟩
        rcases r14 _ hT with hT | hT
        · rcases m4.tab _ hT with hT | hT
          · have := h.lo _ hT; omega
          · have : t.tk.s.next = t.s.next + 1 := rfl
            omega
        · omega
      · obtain ⟨a1, a2, a3⟩ := r7 f hf'
        exact ⟨by omega, a2, a3⟩
    · exact List.Pairwise.cons (fun f hf' => by have := (r7 f hf').1; omega) r8
    · rw [r9, hnx, if_neg (by omega)]; omega
    · intro j hj
      obtain ⟨a1, a2⟩ := r11 j hj
      rw [a1, a2, setO_ne _ _ hj, setO_ne _ _ hj]
      exact ⟨rfl, rfl⟩
    · intro _
      by_cases hn : n = 0
      · obtain ⟨a1, a2⟩ := r13 hn
        rw [a1, a2, setO_at, setO_at]
        exact ⟨rfl, rfl⟩
      · exact r12 hn
    · intro hn; omega
    · intro f hff
      rcases r14 f hff with hT | hT
      · rcases m4.tab _ hT with hT | hT
        · exact .inl hT
        · have : t.tk.s.next = t.s.next + 1 := rfl
          exact .inr (by omega)
      · exact .inr (by omega)
    · intro a ha hn
      rw [r15 a (fun hT => by
        rcases m4.tab _ hT with hT | hT
        · exact ha hT
        · have : t.tk.s.next = t.s.next + 1 := rfl
          omega) (by omega)]
      exact m4.off a ha (Nat.lt_succ_of_lt hn)
/-! The buffer. -/
def Coh (b : Tlb) (lf : Nat → Option Pte) : Prop := ∀ s ∈ b, ∀ w ∈ s, w.full = true → w.leaf.level = 0 ∧ w.page < 134217728 ∧ lf w.page = some w.leaf.p
theorem coh_new (sets ways : Nat) (lf : Nat → Option Pte) : Coh (tlbNew sets ways) lf := by
  intro s hs w hw hf
  have h1 := List.eq_of_mem_replicate hs
  subst h1
  have h2 := List.eq_of_mem_replicate hw
  subst h2
  cases hf
theorem mem_tlbSet {b : Tlb} {page : Nat} {w : Way} (h : w ∈ tlbSet b page) : ∃ s ∈ b, w ∈ s := by
  unfold tlbSet at h
  by_cases hb : page % b.length < b.length
  · rw [List.getD_eq_getElem?_getD, List.getElem?_eq_getElem hb] at h
    exact ⟨_, List.getElem_mem hb, h⟩
  · rw [List.getD_eq_getElem?_getD, List.getElem?_eq_none (by omega)] at h
    exact absurd h (List.not_mem_nil)
theorem waysFind_coh {b : Tlb} {lf : Nat → Option Pte} (h : Coh b lf) {page va : Nat} {asid l : Int} {x : Leaf} (hx : waysFind (tlbSet b page) va asid l = some x) : x.level = 0 ∧ lf (vpn va) = some x.p := by
  unfold waysFind at hx
  rw [Option.map_eq_some_iff] at hx
  obtain ⟨w, hw, rfl⟩ := hx
  have hm := List.mem_of_find?_eq_some hw
  have hp := List.find?_some hw
  simp only [Bool.and_eq_true, decide_eq_true_eq] at hp
  obtain ⟨s, hs, hws⟩ := mem_tlbSet hm
  unfold Way.matches Way.has at hp
  simp only [Bool.and_eq_true, decide_eq_true_eq] at hp
  obtain ⟨a1, a2, a3⟩ := h s hs w hws hp.2.1.1
  refine ⟨a1, ?_⟩
  have := hp.2.1.2
  rw [a1] at this
  unfold pageOf at this
  simp only [Int.toNat_zero, Nat.mul_zero, Nat.pow_zero, Nat.div_one] at this
  rw [← this]
  exact a3
theorem tlbFind_coh {b : Tlb} {lf : Nat → Option Pte} (h : Coh b lf) {va : Nat} {asid : Int} {x : Leaf} (hx : tlbFind b va asid = some x) : x.level = 0 ∧ lf (vpn va) = some x.p := by
  unfold tlbFind at hx
  split at hx
  · rename_i e; cases hx; exact waysFind_coh h e
  · split at hx
    · rename_i e; cases hx; exact waysFind_coh h e
    · exact waysFind_coh h hx
theorem tlbFill_coh {b : Tlb} {lf : Nat → Option Pte} (h : Coh b lf) {va : Nat} {asid pick : Int} {l : Leaf} (hl : l.level = 0) (hp : lf (vpn va) = some l.p) : Coh (tlbFill b va asid l pick) lf := by
  intro s hs w hw hf
  unfold tlbFill at hs
  rcases List.mem_or_eq_of_mem_set hs with hs | rfl
  · exact h s hs w hw hf
  · rcases List.mem_or_eq_of_mem_set hw with hw | rfl
    · obtain ⟨s, hs, hws⟩ := mem_tlbSet hw
      exact h s hs w hws hf
    · refine ⟨hl, ?_, ?_⟩
      · show pageOf va l.level < _
        rw [hl]; unfold pageOf
        simp only [Int.toNat_zero, Nat.mul_zero, Nat.pow_zero, Nat.div_one]
        exact vpn_lt va
      · show lf (pageOf va l.level) = _
        rw [hl]; unfold pageOf
        simp only [Int.toNat_zero, Nat.mul_zero, Nat.pow_zero, Nat.div_one]
        exact hp
theorem tlbFence_coh {b : Tlb} {lf lf' : Nat → Option Pte} (h : Coh b lf) {va : Nat} (hl : ∀ v, v ≠ vpn va → lf' v = lf v) : Coh (tlbFence b va) lf' := by
  intro s hs w hw hf
  unfold tlbFence at hs
  obtain ⟨s0, hs0, rfl⟩ := List.mem_map.1 hs
  obtain ⟨w0, hw0, rfl⟩ := List.mem_map.1 hw
  by_cases hg : w0.goes va = true
  · rw [if_pos hg] at hf; cases hf
  · rw [if_neg hg] at hf ⊢
    obtain ⟨a1, a2, a3⟩ := h s0 hs0 w0 hw0 hf
    refine ⟨a1, a2, ?_⟩
    rw [hl]
    · exact a3
    · intro e
      apply hg
      unfold Way.goes Way.has pageOf
      rw [hf, a1, e]
      simp
/-! A unit whose tables and buffer say the same. -/
structure UnOk (u : Mu) (t1 t0 : Nat → Option Nat) (lf : Nat → Option Pte) : Prop where
  tab : TabOk u.b u.fr u.satp.ppn t1 t0 lf
  coh : Coh u.tlb lf
  on : u.satp.on = true
  fr : u.fr ≤ 1048576
  pp : ∀ v p, v < 134217728 → lf v = some p → p.ppn < u.fr
theorem UnOk.tlb {u : Mu} {t1 t0 : Nat → Option Nat} {lf : Nat → Option Pte} (h : UnOk u t1 t0 lf) {b : Tlb} (hb : Coh b lf) : UnOk { u with tlb := b } t1 t0 lf := ⟨h.tab, hb, h.on, h.fr, h.pp⟩
theorem leaf_uo {u : Mu} {t1 t0 : Nat → Option Nat} {lf : Nat → Option Pte} (h : UnOk u t1 t0 lf) {va : Nat} (hc : canonB va = true) (a pick : Int) :
    (lf (vpn va) = none → leafF u va a pick = ((Leaf.zero, pageC a), u.tlb)) ∧ (∀ p, lf (vpn va) = some p → ∃ l b, leafF u va a pick = ((l, -1), b) ∧ l.p = p ∧ l.level = 0 ∧ Coh b lf) := by
  have hfind := find_tab h.tab h.fr hc
  constructor
  · intro hn
    rw [hn] at hfind
    have ht : tlbFind u.tlb va u.satp.asid = none := by
      cases e : tlbFind u.tlb va u.satp.asid with
      | none => rfl
      | some l => have := (tlbFind_coh h.coh e).2; rw [hn] at this; cases this
    unfold leafF findS
    rw [ht, if_pos h.on, hfind]
    rfl
  · intro p hp
    rw [hp] at hfind
    cases e : tlbFind u.tlb va u.satp.asid with
    | some l =>
      obtain ⟨a1, a2⟩ := tlbFind_coh h.coh e
      rw [hp] at a2
      cases a2
      exact ⟨l, u.tlb, by unfold leafF; rw [e], rfl, a1, h.coh⟩
    | none =>
      refine ⟨_, _, by unfold leafF findS; rw [e, if_pos h.on, hfind]; rfl, rfl, rfl, ?_⟩
      exact tlbFill_coh h.coh rfl hp
theorem join_zero {ppn va : Nat} (h : ppn < 1048576) : joinF ppn va (0 : Int).toNat = ppn * 4096 + va % 4096 := by
  unfold joinF
  show ppn * 4096 % 18446744073709551616 / 2 ^ 12 * 2 ^ 12 + va % 2 ^ 12 = _
  omega
theorem place_uo {u : Mu} {t1 t0 : Nat → Option Nat} {lf : Nat → Option Pte} (h : UnOk u t1 t0 lf) {va : Nat} {size : Int} (hc : canonB va = true) (ha : alignedB va size = true) (a pick : Int) (h3 : pageC a ≠ -1) :
    (lf (vpn va) = none → placeF u va size a pick = ((0, pageC a), u.tlb)) ∧
    (∀ p, lf (vpn va) = some p → ∃ b, Coh b lf ∧ placeF u va size a pick = (if checkB p a u.mode then (p.ppn * 4096 + va % 4096, -1) else (0, pageC a), b)) := by
  obtain ⟨l1, l2⟩ := leaf_uo h hc a pick
  constructor
  · intro hn
    unfold placeF
    rw [ha, l1 hn]
    simp only [Bool.not_true, Bool.false_eq_true, if_false, ne_eq, h3, not_false_eq_true, if_true]
  · intro p hp
    obtain ⟨l, b, e, rfl, e2, e3⟩ := l2 p hp
    refine ⟨b, e3, ?_⟩
    have hpp := h.pp _ _ (vpn_lt va) hp
    have hfr := h.fr
    unfold placeF
    rw [ha, e]
    simp only [Bool.not_true, Bool.false_eq_true, if_false, ne_eq, not_true_eq_false, e2]
    rw [join_zero (by omega)]
    cases checkB l.p a u.mode with
    | false => rfl
    | true =>
      simp only [Bool.not_true, Bool.false_eq_true, if_false, if_true]
      rw [if_neg (by omega)]
theorem read_uo {u : Mu} {t1 t0 : Nat → Option Nat} {lf : Nat → Option Pte} (h : UnOk u t1 t0 lf) {va : Nat} {size : Int} (hc : canonB va = true) (ha : alignedB va size = true) (a pick : Int) (h3 : pageC a ≠ -1) :
    (lf (vpn va) = none → readF u va size a pick = ((0, pageC a), u)) ∧
    (∀ p, lf (vpn va) = some p → ∃ b, Coh b lf ∧ readF u va size a pick = (if checkB p a u.mode then (getW u.b (p.ppn * 4096 + va % 4096) size.toNat, -1) else (0, pageC a), { u with tlb := b })) := by
  obtain ⟨l1, l2⟩ := place_uo h hc ha a pick h3
  constructor
  · intro hn
    unfold readF
    rw [l1 hn]
    simp only [ne_eq, h3, not_false_eq_true, if_true]
  · intro p hp
    obtain ⟨b, hb, e⟩ := l2 p hp
    refine ⟨b, hb, ?_⟩
    unfold readF
    rw [e]
    cases checkB p a u.mode with
    | false => simp only [Bool.false_eq_true, if_false, ne_eq, h3, not_false_eq_true, if_true]
    | true => simp only [if_true, ne_eq, not_true_eq_false, if_false]
theorem store_uo {u : Mu} {t1 t0 : Nat → Option Nat} {lf : Nat → Option Pte} (h : UnOk u t1 t0 lf) {va : Nat} {size : Int} (hc : canonB va = true) (ha : alignedB va size = true) (v : Nat) (pick : Int) :
    (lf (vpn va) = none → storeF u va size v pick = (15, u)) ∧
    (∀ p, lf (vpn va) = some p → ∃ b, Coh b lf ∧ storeF u va size v pick = (if checkB p 2 u.mode then (-1, { u with tlb := b, b := putW u.b (p.ppn * 4096 + va % 4096) size.toNat v }) else (15, { u with tlb := b }))) := by
  obtain ⟨l1, l2⟩ := place_uo h hc ha 2 pick (by decide)
  constructor
  · intro hn
    unfold storeF
    rw [l1 hn]
    rfl
  · intro p hp
    obtain ⟨b, hb, e⟩ := l2 p hp
    refine ⟨b, hb, ?_⟩
    unfold storeF
    rw [e]
    cases checkB p 2 u.mode with
    | false => rfl
    | true => rfl
end Go.Proofs.YtdjaeoeejcmhdaaGreatDoor
set_option linter.unusedVariables false
set_option linter.unusedSimpArgs false
namespace Go.Proofs.YtdjaeoeejcmhdaaGreatDoor
open Go.RowKit Go.RR
theorem putI_find {α : Type} (q k : Int) (v : α) : ∀ l : List (Int × α), ((putI l k v).find? fun x => x.1 == q).map (·.2) = if q = k then some v else (l.find? fun x => x.1 == q).map (·.2)
  | [] => by
    unfold putI
    by_cases h : q = k
    · rw [if_pos h, List.find?_cons_of_pos (by simp [h])]; rfl
    · rw [if_neg h, List.find?_cons_of_neg (by simpa using fun e => h e.symm)]
  | x :: l => by
    unfold putI
    by_cases hx : x.1 = k
    · rw [if_pos hx]
      by_cases h : q = k
      · rw [if_pos h, List.find?_cons_of_pos (by simp [h])]; rfl
      · rw [if_neg h, List.find?_cons_of_neg (by simpa using fun e => h e.symm), List.find?_cons_of_neg (by simpa [hx] using fun e => h e.symm)]
    · rw [if_neg hx]
      by_cases hq : x.1 = q
      · rw [List.find?_cons_of_pos (by simp [hq]), List.find?_cons_of_pos (by simp [hq]), if_neg (by omega)]
      · rw [List.find?_cons_of_neg (by simpa using hq), List.find?_cons_of_neg (by simpa using hq)]
        exact putI_find q k v l
theorem putI_new {α : Type} (k : Int) (v : α) : ∀ l : List (Int × α), (l.find? fun x => x.1 == k) = none → putI l k v = l ++ [(k, v)]
  | [], _ => rfl
  | x :: l, h => by
    have hx : x.1 ≠ k := fun e => by rw [List.find?_cons_of_pos (by simp [e])] at h; cases h
    rw [List.find?_cons_of_neg (by simpa using hx)] at h
    unfold putI
    rw [if_neg hx, putI_new k v l h]
    rfl
/-- Which entry a page has, by what the space remembers. -/
def Spc.lf (s : Spc) (v : Nat) : Option Pte :=
  if 16 ≤ v ∧ v < 16 + s.code.length then some (codeP (s.code.getD (v - 16) 0))
  else if 32 ≤ v ∧ v < 32 + s.own.length then some (ownP (s.own.getD (v - 32) 0))
  else if 262144 ≤ v ∧ rightOf s ((v - 262144 : Nat) : Int) ≠ 0 then some ((if rightOf s ((v - 262144 : Nat) : Int) = 2 then ownP else readP) ((frameOf s ((v - 262144 : Nat) : Int)).getD 0))
  else none
def Spc.frames (s : Spc) : List Nat := s.code ++ s.own ++ s.shared.map (·.2)
structure SpInv (s : Spc) (t1 t0 : Nat → Option Nat) : Prop where
  inv : TInv s.u.fr s.root s.tst t1 t0 s.lf
  coh : Coh s.u.tlb s.lf
  sat : s.u.satp = ⟨true, 1, s.root⟩
  mode : s.u.mode = ⟨true, false, false⟩
  fr : s.u.fr ≤ 1048576
  nd : s.frames.Nodup
  ft : ∀ f ∈ s.frames, f < s.stk.next ∧ ¬ IsTab s.root t1 t0 f
  cl : s.code.length ≤ 16
  ol : s.own.length ≤ 16
  sh : s.shape.shared ≤ 65536
  rf : ∀ p, rightOf s p ≠ 0 → (frameOf s p).isSome = true
  rp : ∀ p, rightOf s p ≠ 0 → 0 ≤ p ∧ p < s.shape.shared
theorem frameOf_mem {s : Spc} {p : Int} {f : Nat} (h : frameOf s p = some f) : f ∈ s.frames := by
  unfold frameOf at h
  rw [Option.map_eq_some_iff] at h
  obtain ⟨x, hx, rfl⟩ := h
  unfold Spc.frames
  exact List.mem_append_right _ (List.mem_map.2 ⟨x, List.mem_of_find?_eq_some hx, rfl⟩)
theorem code_mem {s : Spc} {i : Nat} (h : i < s.code.length) : s.code.getD i 0 ∈ s.frames := by
  rw [List.getD_eq_getElem?_getD, List.getElem?_eq_getElem h]
  exact List.mem_append_left _ (List.mem_append_left _ (List.getElem_mem h))
theorem own_mem {s : Spc} {i : Nat} (h : i < s.own.length) : s.own.getD i 0 ∈ s.frames := by
  rw [List.getD_eq_getElem?_getD, List.getElem?_eq_getElem h]
  exact List.mem_append_left _ (List.mem_append_right _ (List.getElem_mem h))
/-- The frame that an entry names is one of the space's. -/
theorem Spc.lf_frame {s : Spc} {t1 t0 : Nat → Option Nat} (h : SpInv s t1 t0) {v : Nat} {p : Pte} (e : s.lf v = some p) : p.ppn ∈ s.frames := by
  unfold Spc.lf at e
  split at e
  · cases e; exact code_mem (by omega)
  · split at e
    · cases e; exact own_mem (by omega)
    · split at e
      · rename_i hr
        cases hf : frameOf s ((v - 262144 : Nat) : Int) with
        | none => have := h.rf _ hr.2; rw [hf] at this; cases this
        | some f =>
          rw [hf] at e
          have := frameOf_mem hf
          split at e <;> (cases e; exact this)
      · cases e
theorem SpInv.un {s : Spc} {t1 t0 : Nat → Option Nat} (h : SpInv s t1 t0) : UnOk s.u t1 t0 s.lf := by
  have hs := h.sat
  refine ⟨?_, h.coh, by rw [hs], h.fr, fun v p hv e => ?_⟩
  · rw [hs]; exact h.inv.tab
  · have := (h.ft _ (Spc.lf_frame h e)).1
    have := h.inv.nx
    have := h.inv.fin
    have e1 : s.tst.s.next = s.stk.next := rfl
    omega
theorem mayB_ent {e : Nat → Pte} {txt : ByteArray} (h : EntOk txt e) {f : Nat} (hf : f < 1048576) : mayB (e f) = true := by
  unfold mayB mayL
  rw [pteG_W (h.ok f (by omega)), decide_eq_true rfl, h.right f, h.leaf f, show evenB (e f).ppn 0 = true from decide_eq_true (Nat.mod_one _)]
  rfl
theorem isTab_zero {f : Nat} (h : IsTab 0 (fun _ => none) (fun _ => none) f) : f = 0 := by
  rcases h with h | ⟨_, _, h⟩ | ⟨_, _, h⟩
  · exact h
  · cases h
  · cases h
theorem t0S_inv {n : Nat} (hn : 1 ≤ n) : TInv n 0 (t0S n) (fun _ => none) (fun _ => none) (fun _ => none) := by
  have hz : ∀ a k, getW (t0S n).b a k = 0 := fun a k => getW_zeros fun i hi => by show (if _ then _ else _) = 0; split <;> rfl
  refine ⟨⟨hn, fun i hi => hz _ _, fun i f hi e => (by cases e), fun q f hq e => (by cases e), fun v p hv e => (by cases e)⟩, hn, Nat.le_refl _, fun f hf => ?_, fun i j f hi hj e => (by cases e), fun i j f hi hj e => (by cases e), fun i j f hi hj e => (by cases e), fun i hi e => (by cases e), fun i hi e => (by cases e)⟩
  rw [isTab_zero hf]
  exact Nat.zero_lt_one
/-- A space as it is made. -/
theorem new_inv (sh : Shp) (n sets ways : Nat) (hok : sh.ok = true) (hn : 3 + sh.code + sh.priv ≤ (n : Int)) (hn2 : n ≤ 1048576) :
    LayOk n 0 65536 codeP sh.code.toNat 0 (t0S n) ∧ LayOk n 0 131072 ownP sh.priv.toNat 0 (layF 0 65536 codeP sh.code.toNat 0 (t0S n) []).2 ∧
    ∃ t1 t0, SpInv (newS sh n sets ways) t1 t0 ∧ (newS sh n sets ways).stk.next = 3 + sh.code.toNat + sh.priv.toNat ∧ (newS sh n sets ways).stk.fin = n ∧ (∀ j, j ≠ 0 → t1 j = none ∧ t0 j = none) ∧
      (newS sh n sets ways).code.length = sh.code.toNat ∧ (newS sh n sets ways).own.length = sh.priv.toNat := by
  have hsh : 1 ≤ sh.code ∧ sh.code ≤ 16 ∧ 0 ≤ sh.priv ∧ sh.priv ≤ 16 ∧ 0 ≤ sh.shared ∧ sh.shared ≤ 65536 := by unfold Shp.ok at hok; simp at hok; omega
  obtain ⟨t1, t0, lf, fs, t', r1, r2, r3, r4, r5, r6, r7, r8, r9, r10, r11, r12, r13, r14, r15⟩ := lay_tab codeP (fun f hf => mayB_ent ent_code hf) hn2 16 sh.code.toNat 0 (t0S n) _ _ _ [] (t0S_inv (n := n) (by omega)) (by omega) (fun _ _ => rfl) (by
    show 1 + sh.code.toNat + _ ≤ n
    have : noneN (none : Option Nat) = 1 := rfl
    split <;> omega)
  have hc0 : sh.code.toNat ≠ 0 := by omega
  obtain ⟨k1, k0⟩ := r12 hc0
  have hn1 : noneN (t1 0) = 0 := by unfold noneN; cases e : t1 0 with | none => rw [e] at k1; cases k1 | some f => rfl
  have hn0 : noneN (t0 0) = 0 := by unfold noneN; cases e : t0 0 with | none => rw [e] at k0; cases k0 | some f => rfl
  have hnx : t'.s.next = 3 + sh.code.toNat := by
    rw [r9, if_neg hc0]
    show 1 + sh.code.toNat + (1 + 1) = _
    omega
  have hfin : t'.s.fin = n := r10
  have hlf : ∀ v, lf v = if 16 ≤ v ∧ v < 16 + sh.code.toNat then some (codeP (fs.getD (v - 16) 0)) else none := by
    intro v
    by_cases hv : 16 ≤ v ∧ v < 16 + sh.code.toNat
    · rw [if_pos hv]
      have := r5 (v - 16) (by omega)
      rwa [show 16 + 0 + (v - 16) = v by omega] at this
    · rw [if_neg hv]; exact r6 v (by omega)
  obtain ⟨t1', t0', lf', fs', t'', q1, q2, q3, q4, q5, q6, q7, q8, q9, q10, q11, q12, q13, q14, q15⟩ := lay_tab ownP (fun f hf => mayB_ent ent_own hf) hn2 32 sh.priv.toNat 0 t' _ _ _ [] r3 (by omega) (fun k hk => by rw [hlf, if_neg (by omega)]) (by
    rw [hnx, hn1, hn0, hfin]
    split <;> omega)
  have hnx2 : t''.s.next = 3 + sh.code.toNat + sh.priv.toNat := by
    rw [q9, hnx, hn1, hn0]
    split <;> omega
  rw [List.nil_append] at r1 q1
  have eL : layF 0 65536 codeP sh.code.toNat 0 (t0S n) [] = ((fs, 0), t') := r1
  have eO : layF 0 131072 ownP sh.priv.toNat 0 t' [] = ((fs', 0), t'') := q1
  have eS : newS sh n sets ways = ⟨sh, ⟨t''.b, n, tlbNew sets ways, ⟨true, 1, 0⟩, ⟨true, false, false⟩⟩, t''.s, 0, t''.used, fs, fs', [], []⟩ := by
    show (let t0 : Tst := ⟨zeroPg (fun _ => 0) 0, ⟨0, 1, n, [0]⟩, 1⟩
      let c := layF 0 65536 codeP sh.code.toNat 0 t0 []
      let o := layF 0 131072 ownP sh.priv.toNat 0 c.2 []
      (⟨sh, ⟨o.2.b, n, tlbNew sets ways, ⟨true, 1, 0⟩, ⟨true, false, false⟩⟩, o.2.s, 0, o.2.used, c.1.1, o.1.1, [], []⟩ : Spc)) = _
    have eL' : layF 0 65536 codeP sh.code.toNat 0 ⟨zeroPg (fun _ => 0) 0, ⟨0, 1, n, [0]⟩, 1⟩ [] = ((fs, 0), t') := eL
    simp only [eL', eO]
  refine ⟨r2, by rw [eL]; exact q2, t1', t0', ?_, by rw [eS]; exact hnx2, by rw [eS]; exact q10.trans hfin, ?_, by rw [eS]; exact r4, by rw [eS]; exact q4⟩
  · rw [eS]
    refine ⟨?_, coh_new _ _ _, rfl, rfl, hn2, ?_, ?_, by show fs.length ≤ 16; omega, by show fs'.length ≤ 16; omega, hsh.2.2.2.2.2, fun p hp => absurd rfl hp, fun p hp => absurd rfl hp⟩
    · have : Spc.lf ⟨sh, ⟨t''.b, n, tlbNew sets ways, ⟨true, 1, 0⟩, ⟨true, false, false⟩⟩, t''.s, 0, t''.used, fs, fs', [], []⟩ = lf' := by
        funext v
        unfold Spc.lf
        dsimp only
        rw [r4, q4]
        by_cases h1 : 16 ≤ v ∧ v < 16 + sh.code.toNat
        · rw [if_pos h1, q6 v (.inl (by omega)), hlf, if_pos h1]
        · rw [if_neg h1]
          by_cases h2 : 32 ≤ v ∧ v < 32 + sh.priv.toNat
          · rw [if_pos h2]
            have := q5 (v - 32) (by omega)
            rw [show 32 + 0 + (v - 32) = v by omega] at this
            exact this.symm
          · rw [if_neg h2, q6 v (by omega), hlf, if_neg h1, if_neg (fun e => e.2 rfl)]
      rw [this]
      exact q3
    · show (fs ++ fs' ++ []).Nodup
      rw [List.append_nil, List.nodup_append]
      refine ⟨r8.imp fun h => Nat.ne_of_lt h, q8.imp fun h => Nat.ne_of_lt h, fun a ha b hb => ?_⟩
      have := (r7 a ha).2.1
      have := (q7 b hb).1
      omega
    · intro f hf
      show f < t''.s.next ∧ ¬ IsTab 0 t1' t0' f
      have hf' : f ∈ fs ++ fs' ++ [] := hf
      rw [List.append_nil, List.mem_append] at hf'
      rcases hf' with hf' | hf'
      · obtain ⟨a1, a2, a3⟩ := r7 f hf'
        refine ⟨by rw [hnx2]; omega, fun hT => ?_⟩
        exact (q14 f hT).elim a3 fun e => by omega
      · obtain ⟨a1, a2, a3⟩ := q7 f hf'
        exact ⟨a2, a3⟩
  · intro j hj
    obtain ⟨a1, a2⟩ := r11 j hj
    obtain ⟨b1, b2⟩ := q11 j hj
    rw [b1, b2, a1, a2]
    exact ⟨rfl, rfl⟩
end Go.Proofs.YtdjaeoeejcmhdaaGreatDoor
