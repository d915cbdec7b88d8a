/- The sender: item, again, Out, Acked, Due. -/
import Derived.Test.YtokigldggkkbcaaSend
set_option linter.unusedVariables false
namespace Go.Proofs.Ytokigldggkkbcaa
open Go.RowKit Go.RR

set_option maxHeartbeats 1000000 in
set_option maxRecDepth 100000 in
theorem itemAt {S : Nat → Prop} {w : World} (seq due wait : Int) (v : Value) (s : ByteArray) (hv : Sl w S 1 v s.size (byteCells s)) (hs : s.size ≤ 5000) :
    Calls Try.prog 80 #[.agg #[.int .u64 seq, v, .int .i64 due, .int .i64 wait]] w (RetV fun r w' => ∃ p c, r = .agg #[.int .u64 seq, .slice p s.size c] ∧ Own w' (fun k => w.heap.size ≤ k) 5 1 (.slice p s.size c) s.size (byteCells s) ∧ Chg NoB w w') := by
  obtain ⟨pv, cv, rfl⟩ : ∃ p c, v = .slice p s.size c := by obtain ⟨-, p, c, e, -⟩ := hv; exact ⟨p, c, e⟩
  have HV := Lib.hid hv
  clear hv
  go_enter Try.func80, Try.ntmps80
  go_wp2_with fail
  have A1 := (Chg.refl NoB w).alloc (.cells #[.int .u64 seq, .slice pv s.size cv, .int .i64 due, .int .i64 wait] 133)
  have B1 := Blk.new w #[.int .u64 seq, .slice pv s.size cv, .int .i64 due, .int .i64 wait] 133
  generalize hw1 : w.alloc (.cells #[.int .u64 seq, .slice pv s.size cv, .int .i64 due, .int .i64 wait] 133) = w1 at *
  have hz1 : w1.heap.size = w.heap.size + 1 := by rw [← hw1]; simp
  have A2 := (Chg.refl NoB w1).alloc (.cells #[.int .u64 0, .slice none 0 0] 100)
  have B2 := Blk.new w1 #[.int .u64 0, .slice none 0 0] 100
  rw [hz1] at B2
  have B1' := A2.blk0 B1
  have V2 := (HV.out.chg0 A1).chg0 A2
  have C2 := A1.step A2
  generalize hw2 : w1.alloc (.cells #[.int .u64 0, .slice none 0 0] 100) = w2 at *
  have x0 := B1'.cell' (i := 0) (v := .int .u64 seq) (by rfl)
  have x1 := B1'.cell' (i := 1) (v := .slice pv s.size cv) (by rfl)
  have hz2 := A2.size
  have HB2 := Lib.hid B2
  have HV2 := Lib.hid V2
  clear hw1 hw2 A1 B1 A2 B2 B1' V2 HV
  refine wp_region_take 8 [0, 1, 2, 3, 4, 5] [6, 7] (fun w' => w'.cell? ⟨w.heap.size, 0, none⟩ = some (.int .u64 seq) ∧ w'.cell? ⟨w.heap.size, 1, none⟩ = some (.slice pv s.size cv)) (by kernel_rfl) (by kernel_rfl) (fun _ _ _ _ _ h => h) (⟨x0, x1⟩) ?_
  simp only [pickOps_nil, pickOps_cons, Option.getD_some, List.getElem?_toArray, List.getElem?_cons_zero, List.getElem?_cons_succ, List.cons_append, List.nil_append, List.drop_succ_cons, List.drop_zero]
  repeat
    refine wpTake_cons' rfl ?_
    apply Exists.intro
    refine ⟨fun wS hS => ?_, ?_⟩
    · try dsimp only at hS
      obtain ⟨x0, x1⟩ := hS
      go_simp
      try rfl
    simp only [Act.put, List.setIfInBounds_toArray, List.set_cons_zero, List.set_cons_succ]
  refine wpTake_nil ?_
  refine wpForce_cons rfl (fun K hK => ?_)
  go_simp
  refine (b_clone S _ s.size (byteCells s) _ (show Sl w2.drew S 1 _ s.size (byteCells s) from HV2.out) (byteCells_one s) (by omega) (by unfold maxLen; omega)).mono ?_
  rintro e' w3 ⟨v3, rfl, o3, C3'⟩
  have C3 := C3'.undrew
  have o3 : Own w3 (fun k => w2.heap.size ≤ k) 5 1 v3 s.size (byteCells s) := o3
  obtain ⟨q3, e3, rfl⟩ : ∃ p c, v3 = .slice p s.size c := by obtain ⟨-, p, c, e, -⟩ := o3.sl; exact ⟨p, c, e⟩
  have y0 := C3.cell x0 id
  have y1 := C3.cell x1 id
  refine hK _ _ ⟨y0, y1⟩ ?_
  refine wpForce_cons rfl (fun K2 hK2 => ?_)
  go_simp
  refine hK2 _ _ ⟨y0, y1⟩ ?_
  refine wpForce_nil ?_
  clear hK hK2 K K2 C3'
  have B3 := C3.blk0 HB2.out
  have z0 := B3.cell' (i := 0) (v := .int .u64 0) (by rfl)
  have z1 := B3.cell' (i := 1) (v := .slice none 0 0) (by rfl)
  have zf0 := B3.frozen 0
  have zf1 := B3.frozen 1
  have zl := B3.lt
  have HO3 := Lib.hid o3
  have HB3 := Lib.hid B3
  clear o3 B3
  go_wp2_with fail
  refine bodyPost_ret (v := .agg #[.int .u64 seq, .slice q3 s.size e3]) (by simp [results, Try.results80, go_sem, z0, z1, zf0, zf1, zl]) rfl ⟨_, rfl, q3, e3, rfl, ?_, ?_⟩
  · have CS := (Chg.refl (· = w.heap.size + 1) w3).setCell (a := ⟨w.heap.size + 1, 0, none⟩) (.inl rfl) (.int .u64 seq)
    have CS2 := CS.setCell (a := ⟨w.heap.size + 1, 1, none⟩) (.inl rfl) (.slice q3 s.size e3)
    have hz3 := HB2.out.lt
    exact (HO3.out.chg CS2 fun k hk e => by omega).mono fun k hk => by omega
  · exact ((C2.step C3).setCell (a := ⟨w.heap.size + 1, 0, none⟩) (.inr (by simp)) _).setCell (a := ⟨w.heap.size + 1, 1, none⟩) (.inr (by simp)) _

def icells : List (Int × ByteArray) → List Value → List Value
  | f :: fl, v :: vs => [.int .u64 f.1, v] ++ icells fl vs
  | _, _ => []
theorem icells_len : ∀ (fl : List (Int × ByteArray)) (vs : List Value), vs.length = fl.length → (icells fl vs).length = fl.length * 2
  | [], _, _ => by simp [icells]
  | f :: fl, [], h => by simp at h
  | f :: fl, v :: vs, h => by
    have := icells_len fl vs (by simpa using h)
    simp only [icells, List.length_append, List.length_cons, List.length_nil, this]; omega
theorem icells_at : ∀ (fl : List (Int × ByteArray)) (vs : List Value) (i : Nat) (f : Int × ByteArray) (v : Value), fl[i]? = some f → vs[i]? = some v →
    (icells fl vs)[i * 2]? = some (.int .u64 f.1) ∧ (icells fl vs)[i * 2 + 1]? = some v
  | [], _, i, f, v, h, _ => by simp at h
  | g :: fl, [], i, f, v, _, h => by simp at h
  | g :: fl, u :: vs, 0, f, v, h1, h2 => by simp at h1 h2; subst h1 h2; exact ⟨rfl, rfl⟩
  | g :: fl, u :: vs, i + 1, f, v, h1, h2 => by
    have := icells_at fl vs i f v (by simpa using h1) (by simpa using h2)
    rw [show (i + 1) * 2 = i * 2 + 2 by omega]
    exact this
theorem icells_app : ∀ (fl : List (Int × ByteArray)) (vs : List Value) (f : Int × ByteArray) (v : Value), vs.length = fl.length → icells (fl ++ [f]) (vs ++ [v]) = icells fl vs ++ [.int .u64 f.1, v]
  | [], [], f, v, _ => by simp [icells]
  | [], _ :: _, f, v, h => by simp at h
  | g :: fl, [], f, v, h => by simp at h
  | g :: fl, u :: vs, f, v, h => by
    have := icells_app fl vs f v (by simpa using h)
    simp only [List.cons_append, icells, this]
    rfl

/-- Owned slices of bytes, by place. -/
def ORows (w : World) (S : Nat → Prop) (vs : List Value) (bs : List ByteArray) : Prop :=
  vs.length = bs.length ∧ ∀ (i : Nat) (s : ByteArray), bs[i]? = some s → ∃ v : Value, vs[i]? = some v ∧ Own w S 5 1 v s.size (byteCells s)
theorem ORows.nil (w : World) (S : Nat → Prop) : ORows w S [] [] := ⟨rfl, fun i us h => by simp at h⟩
section
variable {w w' : World} {S S' : Nat → Prop} {vs : List Value} {bs : List ByteArray}
theorem ORows.chg (h : ORows w S vs bs) (c : Chg S' w w') (hs : ∀ k, S k → ¬ S' k) : ORows w' S vs bs :=
  ⟨h.1, fun i us hi => by obtain ⟨v, h1, h2⟩ := h.2 i us hi; exact ⟨v, h1, h2.chg c hs⟩⟩
theorem ORows.chg0 (h : ORows w S vs bs) (c : Chg NoB w w') : ORows w' S vs bs := h.chg c fun _ _ => id
theorem ORows.monoIn (h : ORows w S vs bs) (hs : ∀ k, k < w.heap.size → S k → S' k) : ORows w S' vs bs :=
  ⟨h.1, fun i us hi => by obtain ⟨v, h1, h2⟩ := h.2 i us hi; exact ⟨v, h1, h2.monoIn hs⟩⟩
theorem ORows.snoc (h : ORows w S vs bs) {v : Value} {s : ByteArray} (hv : Own w S 5 1 v s.size (byteCells s)) : ORows w S (vs ++ [v]) (bs ++ [s]) := by
  refine ⟨by simp [h.1], fun i x hx => ?_⟩
  rw [List.getElem?_append] at hx
  split at hx
  · rename_i hi
    obtain ⟨v', h1, h2⟩ := h.2 i x hx
    exact ⟨v', by rw [List.getElem?_append_left (by have := h.1; omega)]; exact h1, h2⟩
  · rename_i hi
    have hi2 : i = bs.length := by have := (List.getElem?_eq_some_iff.1 hx).1; simp at this; omega
    subst hi2
    simp at hx
    subst hx
    exact ⟨v, by rw [List.getElem?_append_right (by have := h.1; omega), h.1]; simp, hv⟩
end

/-- What is sent: numbers and bodies, each body of its own. -/
def OutAt (w : World) (S : Nat → Prop) (q : Value) (outs : List (Int × ByteArray)) : Prop :=
  ∃ (S1 S2 : Nat → Prop) (vs : List Value), (∀ k, S1 k → S k ∧ ¬ S2 k) ∧ (∀ k, S2 k → S k) ∧ Own w S1 100 2 q outs.length (icells outs vs) ∧ ORows w S2 vs (outs.map (·.2))
section
variable {w w' : World} {S S' : Nat → Prop} {q : Value} {outs : List (Int × ByteArray)}
theorem OutAt.chg (h : OutAt w S q outs) (c : Chg S' w w') (hs : ∀ k, S k → ¬ S' k) : OutAt w' S q outs := by
  obtain ⟨S1, S2, vs, h1, h2, h3, h4⟩ := h
  exact ⟨S1, S2, vs, h1, h2, h3.chg c fun k hk => hs k (h1 k hk).1, h4.chg c fun k hk => hs k (h2 k hk)⟩
theorem OutAt.chg0 (h : OutAt w S q outs) (c : Chg NoB w w') : OutAt w' S q outs := h.chg c fun _ _ => id
theorem OutAt.bound (h : OutAt w S q outs) (hs : ∀ k, k < w.heap.size → S k → S' k) : OutAt w S' q outs := by
  obtain ⟨S1, S2, vs, h1, h2, h3, h4⟩ := h
  exact ⟨fun k => S1 k ∧ k < w.heap.size, fun k => S2 k ∧ k < w.heap.size, vs, fun k hk => ⟨hs k hk.2 (h1 k hk.1).1, fun e => (h1 k hk.1).2 e.1⟩, fun k hk => hs k hk.2 (h2 k hk.1), h3.monoIn fun k a b => ⟨b, a⟩, h4.monoIn fun k a b => ⟨b, a⟩⟩
theorem OutAt.nil (w : World) (S : Nat → Prop) : OutAt w S (.slice none 0 0) [] := ⟨NoB, NoB, [], fun _ h => h.elim, fun _ h => h.elim, Own.nil _ _ _ _, ORows.nil _ _⟩
end

theorem ITinfo : (Try.prog.info? 100).map (fun i => (i.zero, i.size, i.bytes)) = some (some (.agg #[.int .u64 0, .slice none 0 0]), 2, 32) := by kernel_rfl

end Go.Proofs.Ytokigldggkkbcaa
