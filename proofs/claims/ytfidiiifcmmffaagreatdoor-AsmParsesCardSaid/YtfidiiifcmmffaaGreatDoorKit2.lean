/- More small lemmas on memory: an append that has room, clear, rows of slices. No condition. -/
import Derived.Test.YtfidiiifcmmffaaGreatDoorKit
import Derived.Lib.SliceRun
set_option linter.unusedVariables false
set_option linter.unusedSimpArgs false
namespace Go.RR
open Go.RowKit

section
variable {P : Program} {w w' : World} {S S' : Nat → Prop} {E : TypeId} {size : Nat} {v : Value} {n : Nat} {us : List Value}

theorem Chg.undrew (h : Chg S w.drew w') : Chg S w w' := ⟨h.os, h.tape, h.output, h.size, h.block⟩

theorem src_of {t : TypeId} (ht : P.underlying t = some (.slice E)) {x : Value} {m : Nat} {news : List Value} (hx : Sl w S' size x m news) (h1 : ∀ u ∈ news, u.oneCell' = true) : Src P size t x m news w := by
  obtain ⟨hx1, p, cap, rfl, _, hx2⟩ := hx
  by_cases hm0 : m = 0
  · subst hm0
    obtain rfl : news = [] := List.eq_nil_of_length_eq_zero (by simpa using hx1)
    cases p with
    | none => exact Src.ofNil w ht cap
    | some a => exact Src.ofSlice w ht a 0 cap [] (by simp) (fun j u hu => by simp at hu) h1
  · obtain ⟨g, off, rfl, _, _, hc⟩ := hx2 (by omega)
    exact Src.ofSlice w ht ⟨g, off, none⟩ m cap news hx1 (fun j u hu => by rw [Addr.add_lit]; exact hc j u hu) h1

/-- Cells stored over an owned slice's row, from place k on. -/
theorem Own.setCells {g off n' cap : Nat} {us' : List Value} (h : Own w S E size (.slice (some ⟨g, off, none⟩) n cap) n us) (o : Nat) (vs : List Value) (ho : off ≤ o) (hv : o + vs.length ≤ off + cap * size) (hl : us'.length = n' * size) (hn : n' ≤ cap)
    (hu : ∀ j u, us'[j]? = some u → (vs[off + j - o]? = some u ∧ o ≤ off + j) ∨ (us[j]? = some u ∧ (off + j < o ∨ o + vs.length ≤ off + j))) :
    Own (w.setCells g o vs) S E size (.slice (some ⟨g, off, none⟩) n' cap) n' us' ∧ Chg (· = g) w (w.setCells g o vs) ∧ (w.setCells g o vs).heap.size = w.heap.size := by
  obtain ⟨hl0, hv0 | ⟨g', off', cap', cur, e, hg, hb, hn0, hm, hf, hc⟩⟩ := h
  · cases hv0.1
  · cases e
    obtain ⟨c', k1, k2, k3, k4, k5, k6, k7, k8, k9⟩ := setCells_blk vs o w cur hb (by omega)
    refine ⟨⟨hl, .inr ⟨g, off, cap, c', rfl, hg, k1, hn, hm, by omega, fun j u hj => ?_⟩⟩, ⟨k7, k8, k9, by omega, fun k _ hk => k5 k hk⟩, k6⟩
    rcases hu j u hj with ⟨h1, h2⟩ | ⟨h1, h2⟩
    · have := k3 _ u h1
      rwa [show o + (off + j - o) = off + j by omega] at this
    · rw [k4 _ h2]; exact hc j u h1

theorem Own.set1 {g off cap k : Nat} (h : Own w S E 1 (.slice (some ⟨g, off, none⟩) n cap) n us) (hk : k < n) (v : Value) : Own (w.setCell ⟨g, off + k, none⟩ v) S E 1 (.slice (some ⟨g, off, none⟩) n cap) n (us.set k v) := by
  obtain ⟨h1, h2 | ⟨g', off', cap', cur, e, hS, hB, hn, hm, hsz, hc⟩⟩ := h
  · exact absurd h2.1 (by simp)
  · cases e
    refine ⟨by simpa using h1, .inr ⟨g, off, cap, _, rfl, hS, hB.set (off + k) v, hn, hm, by simpa using hsz, fun j u hu => ?_⟩⟩
    by_cases hj : k = j
    · subst hj
      rw [List.getElem?_set_self (by omega)] at hu
      cases hu
      rw [Array.getElem?_setIfInBounds_self_of_lt (by omega)]
    · rw [List.getElem?_set_ne hj] at hu
      rw [Array.getElem?_setIfInBounds_ne (by omega)]
      exact hc j u hu

theorem Own.setAt {g off cap k : Nat} (h : Own w S E size (.slice (some ⟨g, off, none⟩) n cap) n us) (hk : k < n * size) (v : Value) : Own (w.setCell ⟨g, off + k, none⟩ v) S E size (.slice (some ⟨g, off, none⟩) n cap) n (us.set k v) := by
  obtain ⟨h1, h2 | ⟨g', off', cap', cur, e, hS, hB, hn, hm, hsz, hc⟩⟩ := h
  · exact absurd h2.1 (by simp)
  · cases e
    have hmul := Nat.mul_le_mul_right size hn
    refine ⟨by simpa using h1, .inr ⟨g, off, cap, _, rfl, hS, hB.set (off + k) v, hn, hm, by simpa using hsz, fun j u hu => ?_⟩⟩
    by_cases hj : k = j
    · subst hj
      rw [List.getElem?_set_self (by omega)] at hu
      cases hu
      rw [Array.getElem?_setIfInBounds_self_of_lt (by omega)]
    · rw [List.getElem?_set_ne hj] at hu
      rw [Array.getElem?_setIfInBounds_ne (by omega)]
      exact hc j u hu
/-- An owned slice that is not empty: where it lies. -/
theorem Own.spot {v : Value} (h : Own w S E size v n us) (h0 : 0 < n) : ∃ g off cap, v = .slice (some ⟨g, off, none⟩) n cap ∧ S g ∧ g < w.heap.size ∧ n ≤ cap ∧ (∀ j u, us[j]? = some u → w.cell? ⟨g, off + j, none⟩ = some u) ∧ ∀ j, w.frozen? ⟨g, j, none⟩ = false := by
  obtain ⟨-, ⟨-, h1⟩ | ⟨g, off, cap, cur, e, h1, h2, h3, h4, h5, h6⟩⟩ := h
  · omega
  · exact ⟨g, off, cap, e, h1, h2.lt, h3, fun j u hu => h2.cell' (h6 j u hu), fun j => h2.frozen j⟩
theorem Own.at {g off cap : Nat} (h : Own w S E size (.slice (some ⟨g, off, none⟩) n cap) n us) : S g ∧ g < w.heap.size ∧ (∀ j u, us[j]? = some u → w.cell? ⟨g, off + j, none⟩ = some u) ∧ ∀ j, w.frozen? ⟨g, j, none⟩ = false := by
  obtain ⟨-, ⟨h0, h1⟩ | ⟨g', off', cap', cur, e, h1, h2, h3, h4, h5, h6⟩⟩ := h
  · cases h0
  · cases e; exact ⟨h1, h2.lt, fun j u hu => h2.cell' (h6 j u hu), fun j => h2.frozen j⟩
theorem Own.form {v : Value} (h : Own w S E size v n us) : ∃ p c, v = .slice p n c := by obtain ⟨-, p, c, e, -⟩ := h.sl; exact ⟨p, c, e⟩
theorem Sl.form {v : Value} (h : Sl w S size v n us) : ∃ p c, v = .slice p n c := by obtain ⟨-, p, c, e, -⟩ := h; exact ⟨p, c, e⟩

theorem run_room (t ty : TypeId) (i : TypeInfo) (ht : P.underlying t = some (.slice E)) (hi : P.info? E = some i) (hsize : i.size = size) {g off cap : Nat} (hown : Own w S E size (.slice (some ⟨g, off, none⟩) n cap) n us)
    (x : Value) (m q : Nat) (news : List Value) (hx : Sl w S' size x m news) (h1 : ∀ u ∈ news, u.oneCell' = true) (hq : n + m = q) (hroom : q ≤ cap) :
    ∃ w', (Builtin.append_ #[t, t] ty #[.slice (some ⟨g, off, none⟩) n cap, x]).run P w = .ok (.slice (some ⟨g, off, none⟩) q cap) w' ∧ Own w' S E size (.slice (some ⟨g, off, none⟩) q cap) q (us ++ news) ∧ Chg (· = g) w w' ∧ w'.heap.size = w.heap.size := by
  subst hsize hq
  have ho := hown
  obtain ⟨hl0, hv0 | ⟨g', off', cap', cur, e, hg, hb, hn0, hm, hf, hc⟩⟩ := hown
  · cases hv0.1
  · cases e
    have hx1 := hx.1
    have hmul := Nat.mul_le_mul_right i.size hroom
    rw [Nat.add_mul] at hmul
    have hr := run_append_room_src (P := P) w t t ty E i ht hi g off n cap x m news (src_of ht hx h1) hroom
      (fun j hj => by rw [hb.cell, Array.getElem?_eq_getElem (by omega)]; rfl) (fun j hj => hb.frozen _)
    obtain ⟨k1, k2, k3⟩ := ho.setCells (us' := us ++ news) (n' := n + m) (off + n * i.size) news (by omega) (by omega) (by rw [List.length_append, hl0, hx1, Nat.add_mul]) hroom (fun j u hu => by
      rw [List.getElem?_append] at hu
      split at hu
      · rename_i hj; exact .inr ⟨hu, .inl (by omega)⟩
      · rename_i hj
        refine .inl ⟨?_, by omega⟩
        rwa [show off + j - (off + n * i.size) = j - us.length by omega])
    exact ⟨_, hr, k1, k2, k3⟩

theorem wpList_roomy {ops : Array Oper} {rest : List Oper} {o : Oper} {a : Act} {Q : Exit → Act → World → Prop} (hgd : o.guard = none) (s x : Operand) (t : TypeId)
    (ho : o.op = .call { callee := .builtin .append, args := #[s, x], argTypes := #[t, t] })
    (i : TypeInfo) (ht : P.underlying t = some (.slice E)) (hi : P.info? E = some i) (hsize : i.size = size) {g off cap : Nat} (hs : a.eval s = .slice (some ⟨g, off, none⟩) n cap) (hown : Own w S E size (.slice (some ⟨g, off, none⟩) n cap) n us)
    (xv : Value) (m q : Nat) (news : List Value) (hxv : a.eval x = xv) (hx : Sl w S' size xv m news) (h1 : ∀ u ∈ news, u.oneCell' = true) (hq : n + m = q) (hroom : q ≤ cap)
    (h : ∀ w', Own w' S E size (.slice (some ⟨g, off, none⟩) q cap) q (us ++ news) → Chg (· = g) w w' → w'.heap.size = w.heap.size → wpList P ops Q rest (a.put o.dst (.slice (some ⟨g, off, none⟩) q cap)) w') : wpList P ops Q (o :: rest) a w := by
  refine wpList_plain hgd fun K hK => ?_
  obtain ⟨w', hr, h2, h3, h4⟩ := run_room (P := P) t o.type i ht hi hsize hown xv m q news hx h1 hq hroom
  unfold Oper.wp execOp
  simp only [ho, resolve, invoke, builtin, Sem.run_bind, Sem.run_pure, Result.andThen_ok, List.map_toArray, List.map_cons, List.map_nil, hs, hxv, hr]
  exact hK _ _ (h w' h2 h3 h4)

/-- append, as one operation. -/
theorem opwp_app {o : Oper} {a : Act} {K : Act → World → Prop} {Q : Exit → Act → World → Prop} (s x : Operand) (t : TypeId)
    (ho : o.op = .call { callee := .builtin .append, args := #[s, x], argTypes := #[t, t] })
    (i : TypeInfo) (z : Value) (bytes : Nat) (ht : P.underlying t = some (.slice E)) (hi : P.info? E = some i) (hz : i.zero = some z)
    (hsize : i.size = size) (hby : i.bytes = bytes) (hzs : z.cells.size = size) (hs : a.eval s = v) (hown : Own w S E size v n us) (xv : Value) (m : Nat) (news : List Value) (hxv : a.eval x = xv) (hx : Sl w S' size xv m news) (h1 : ∀ u ∈ news, u.oneCell' = true)
    (h63 : n + m ≤ maxLen) (hbytes : (n + m) * bytes ≤ 140737488355328)
    (h : ∀ v' w', Own w' (fun k => v.ownBlock = some k ∨ k = w.heap.size) E size v' (n + m) (us ++ news) → w.grownBy w' v.ownBlock → (0 < m → v' ≠ .slice none 0 0) → K (a.put o.dst v') w') : o.wp P a w K Q := by
  obtain ⟨v', w', hr, h2, h3, h4⟩ := run_app (P := P) t o.type i z bytes ht hi hz hsize hby hzs hown xv m news hx h1 h63 hbytes
  unfold Oper.wp execOp
  simp only [ho, resolve, invoke, builtin, Sem.run_bind, Sem.run_pure, Result.andThen_ok, List.map_toArray, List.map_cons, List.map_nil, hs, hxv, hr]
  exact h v' w' h2 h3 h4

/-- A function value against nil. -/
theorem run_equalIn_func_nil (w : World) (d : Nat) (t : TypeId) (f : Fn) (fst lb : Array Value) (td : TypeDesc) (h : P.underlying t = some td) (hf : (match td with | .func .. => true | _ => false) = true) :
    (Op.equalIn (d + 1) t (.func f fst lb) .nilFunc).run P w = .ok false w := by
  cases td <;> simp at hf <;> simp [Op.equalIn, run_underlying h]
theorem run_eql_func_nil (w : World) (t : TypeId) (f : Fn) (fst lb : Array Value) (td : TypeDesc) (h : P.underlying t = some td) (hf : (match td with | .func .. => true | _ => false) = true) :
    (binOp .eql t (.func f fst lb) .nilFunc).run P w = .ok (.bool false) w := by
  simp only [binOp]
  simp [Op.equal, Op.maxDepth, run_equalIn_func_nil w 9999 t f fst lb td h hf]
theorem run_equalIn_nil_func (w : World) (d : Nat) (t : TypeId) (td : TypeDesc) (h : P.underlying t = some td) (hf : (match td with | .func .. => true | _ => false) = true) :
    (Op.equalIn (d + 1) t .nilFunc .nilFunc).run P w = .ok true w := by
  cases td <;> simp at hf <;> simp [Op.equalIn, run_underlying h]
theorem run_eql_nil_func (w : World) (t : TypeId) (td : TypeDesc) (h : P.underlying t = some td) (hf : (match td with | .func .. => true | _ => false) = true) :
    (binOp .eql t .nilFunc .nilFunc).run P w = .ok (.bool true) w := by
  simp only [binOp]
  simp [Op.equal, Op.maxDepth, run_equalIn_nil_func w 9999 t td h hf]

/-- A list of slices, by place. -/
def RowsAt (w : World) (S : Nat → Prop) (vs : List Value) (uss : List (List Value)) : Prop :=
  vs.length = uss.length ∧ ∀ (i : Nat) (us : List Value), uss[i]? = some us → ∃ v : Value, vs[i]? = some v ∧ Sl w S 1 v us.length us
theorem RowsAt.nil (w : World) (S : Nat → Prop) : RowsAt w S [] [] := ⟨rfl, fun i us h => by simp at h⟩
theorem RowsAt.chg {vs : List Value} {uss : List (List Value)} (h : RowsAt w S vs uss) (c : Chg S' w w') (hs : ∀ k, S k → ¬ S' k) : RowsAt w' S vs uss :=
  ⟨h.1, fun i us hi => by obtain ⟨v, h1, h2⟩ := h.2 i us hi; exact ⟨v, h1, h2.chg c hs⟩⟩
theorem RowsAt.chg0 {vs : List Value} {uss : List (List Value)} (h : RowsAt w S vs uss) (c : Chg NoB w w') : RowsAt w' S vs uss := h.chg c fun _ _ => id
theorem RowsAt.monoIn {vs : List Value} {uss : List (List Value)} (h : RowsAt w S vs uss) (hs : ∀ k, k < w.heap.size → S k → S' k) : RowsAt w S' vs uss :=
  ⟨h.1, fun i us hi => by obtain ⟨v, h1, h2⟩ := h.2 i us hi; exact ⟨v, h1, h2.monoIn hs⟩⟩
theorem RowsAt.snoc {vs : List Value} {uss : List (List Value)} (h : RowsAt w S vs uss) {us : List Value} (hv : Sl w S 1 v us.length us) : RowsAt w S (vs ++ [v]) (uss ++ [us]) := by
  refine ⟨by simp [h.1], fun i x hx => ?_⟩
  rw [List.getElem?_append] at hx
  split at hx
  · rename_i hi
    obtain ⟨v', h1, h2⟩ := h.2 i x hx
    exact ⟨v', by rw [List.getElem?_append_left (by have := h.1; omega)]; exact h1, h2⟩
  · rename_i hi
    have hi2 : i = uss.length := by have := (List.getElem?_eq_some_iff.1 hx).1; simp at this; omega
    subst hi2
    simp at hx
    subst hx
    exact ⟨v, by rw [List.getElem?_append_right (by have := h.1; omega), h.1]; simp, hv⟩
/-- A part of a slice. -/
theorem Sl.cut {g off cap : Nat} (h : Sl w S 1 (.slice (some ⟨g, off, none⟩) n cap) n us) {a k c : Nat} (hk : a + k ≤ n) (hc : k ≤ c) : Sl w S 1 (.slice (some ⟨g, off + a, none⟩) k c) k ((us.drop a).take k) := by
  obtain ⟨h1, p, cap', e, hn, h2⟩ := h
  cases e
  have hl : ((us.drop a).take k).length = k := by simp; omega
  refine ⟨by rw [hl]; omega, _, c, rfl, hc, fun h0 => ?_⟩
  obtain ⟨g', off', e, hS, hg, hcell⟩ := h2 (by omega)
  cases e
  refine ⟨g, off + a, rfl, hS, hg, fun j u hu => ?_⟩
  rw [List.getElem?_take] at hu
  split at hu
  · rw [List.getElem?_drop] at hu
    rw [Nat.add_assoc]
    exact hcell _ _ hu
  · cases hu
end
end Go.RR
