/- Blocks in memory; the blocks of a program, by the program. No condition. -/
import Derived.Test.YtdkplhdinklflaaFlowP4
set_option linter.unusedVariables false
namespace Go.Proofs.Ytdkplhdinklflaa
open Go.RowKit Go.RR

def casts (ns : List Nat) : List Int := ns.map fun n : Nat => (n : Int)
theorem casts_len (ns : List Nat) : (casts ns).length = ns.length := by simp [casts]
theorem casts_snoc (ns : List Nat) (n : Nat) : casts (ns ++ [n]) = casts ns ++ [(n : Int)] := by simp [casts]
theorem casts_at {ns : List Nat} {k : Nat} (h : k < ns.length) : (casts ns)[k]? = some ((ns.getD k 0 : Nat) : Int) := by simp [casts, h]

def kcell (b : Bk) (v : Value) : List Value := [.int .i64 b.1, .int .i64 b.2.1, v]
def kcells : List Bk → List Value → List Value
  | b :: bs, v :: vs => kcell b v ++ kcells bs vs
  | _, _ => []
theorem kcells_len : ∀ (bs : List Bk) (vs : List Value), vs.length = bs.length → (kcells bs vs).length = bs.length * 3
  | [], _, _ => by simp [kcells]
  | b :: bs, [], h => by simp at h
  | b :: bs, v :: vs, h => by
    have := kcells_len bs vs (by simpa using h)
    simp only [kcells, kcell, List.length_append, List.length_cons, List.length_nil, this]; omega
theorem kcells_at : ∀ (bs : List Bk) (vs : List Value) (i : Nat) (b : Bk) (v : Value), bs[i]? = some b → vs[i]? = some v →
    (kcells bs vs)[i * 3]? = some (.int .i64 b.1) ∧ (kcells bs vs)[i * 3 + 1]? = some (.int .i64 b.2.1) ∧ (kcells bs vs)[i * 3 + 2]? = some v
  | [], _, i, b, v, h, _ => by simp at h
  | g :: bs, [], i, b, v, _, h => by simp at h
  | g :: bs, u :: vs, 0, b, v, h1, h2 => by simp at h1 h2; subst h1 h2; exact ⟨rfl, rfl, rfl⟩
  | g :: bs, u :: vs, i + 1, b, v, h1, h2 => by
    have := kcells_at bs vs i b v (by simpa using h1) (by simpa using h2)
    rw [show (i + 1) * 3 = i * 3 + 3 by omega]
    exact this
theorem kcells_app : ∀ (bs : List Bk) (vs : List Value) (b : Bk) (v : Value), vs.length = bs.length → kcells (bs ++ [b]) (vs ++ [v]) = kcells bs vs ++ kcell b v
  | [], [], b, v, _ => by simp [kcells]
  | [], _ :: _, b, v, h => by simp at h
  | g :: bs, [], b, v, h => by simp at h
  | g :: bs, u :: vs, b, v, h => by
    have := kcells_app bs vs b v (by simpa using h)
    simp only [List.cons_append, kcells, this, List.append_assoc]
/-- The lists that blocks bear. -/
def BRows (w : World) (S : Nat → Prop) (vs : List Value) (bs : List Bk) : Prop :=
  vs.length = bs.length ∧ ∀ (i : Nat) (b : Bk), bs[i]? = some b → ∃ v, vs[i]? = some v ∧ Sl w S 1 v b.2.2.length ((casts b.2.2).map (Value.int .i64))
theorem BRows.nil (w : World) (S : Nat → Prop) : BRows w S [] [] := ⟨rfl, fun i b h => by simp at h⟩
section
variable {w w' : World} {S S' : Nat → Prop} {vs : List Value} {bs : List Bk}
theorem BRows.chg (h : BRows w S vs bs) (c : Chg S' w w') (hs : ∀ k, S k → ¬ S' k) : BRows w' S vs bs :=
  ⟨h.1, fun i b hb => by obtain ⟨v, h1, h2⟩ := h.2 i b hb; exact ⟨v, h1, h2.chg c hs⟩⟩
theorem BRows.monoIn (h : BRows w S vs bs) (hs : ∀ k, k < w.heap.size → S k → S' k) : BRows w S' vs bs :=
  ⟨h.1, fun i b hb => by obtain ⟨v, h1, h2⟩ := h.2 i b hb; exact ⟨v, h1, h2.monoIn hs⟩⟩
theorem BRows.snoc (h : BRows w S vs bs) {v : Value} {b : Bk} (hv : Sl w S 1 v b.2.2.length ((casts b.2.2).map (Value.int .i64))) : BRows w S (vs ++ [v]) (bs ++ [b]) := by
  refine ⟨by simp [h.1], fun i c hc => ?_⟩
  rw [List.getElem?_append] at hc
  split at hc
  · rename_i hi
    obtain ⟨u, h1, h2⟩ := h.2 i c hc
    exact ⟨u, by rw [List.getElem?_append_left (by have := h.1; omega)]; exact h1, h2⟩
  · rename_i hi
    have hi2 : i = bs.length := by have := (List.getElem?_eq_some_iff.1 hc).1; simp at this; omega
    subst hi2
    simp at hc
    subst hc
    exact ⟨v, by rw [List.getElem?_append_right (by have := h.1; omega), h.1]; simp, hv⟩
end
/-- A list of blocks, all in blocks from B on. -/
def BkAt (w : World) (B : Nat) (q : Value) (bs : List Bk) : Prop :=
  ∃ (S1 S2 : Nat → Prop) (vs : List Value), (∀ k, S1 k → (B ≤ k ∧ k < w.heap.size) ∧ ¬ S2 k) ∧ (∀ k, S2 k → B ≤ k ∧ k < w.heap.size) ∧ Own w S1 76 3 q bs.length (kcells bs vs) ∧ BRows w S2 vs bs
theorem BkAt.nil (w : World) (B : Nat) : BkAt w B (.slice none 0 0) [] := ⟨NoB, NoB, [], fun _ h => h.elim, fun _ h => h.elim, Own.nil _ _ _ _, BRows.nil _ _⟩
theorem BkAt.form {w : World} {B : Nat} {q : Value} {bs : List Bk} (h : BkAt w B q bs) : ∃ p c, q = .slice p bs.length c := by obtain ⟨S1, S2, vs, -, -, h, -⟩ := h; exact h.form
theorem BkAt.chg {w w' : World} {B : Nat} {q : Value} {bs : List Bk} {S : Nat → Prop} (h : BkAt w B q bs) (c : Chg S w w') (hs : ∀ k, B ≤ k → k < w.heap.size → ¬ S k) : BkAt w' B q bs := by
  obtain ⟨S1, S2, vs, d1, d2, h1, h2⟩ := h
  have := c.size
  exact ⟨S1, S2, vs, fun k hk => ⟨⟨(d1 k hk).1.1, by have := (d1 k hk).1.2; omega⟩, (d1 k hk).2⟩, fun k hk => ⟨(d2 k hk).1, by have := (d2 k hk).2; omega⟩, h1.chg c fun k hk => hs k (d1 k hk).1.1 (d1 k hk).1.2, h2.chg c fun k hk => hs k (d2 k hk).1 (d2 k hk).2⟩
theorem BkAt.rebuild {w0 w1 w2 : World} {B z : Nat} {S1 S2 Sx T : Nat → Prop} {ob : Option Nat} {vs : List Value} {q2 nv : Value} {bs : List Bk} {b : Bk} (d1 : ∀ k, S1 k → (B ≤ k ∧ k < w0.heap.size) ∧ ¬ S2 k) (d2 : ∀ k, S2 k → B ≤ k ∧ k < w0.heap.size) (hR : BRows w0 S2 vs bs) (C1 : Chg T w0 w1) (hT : ∀ k, T k → w0.heap.size ≤ k)
    (hv : Sl w1 Sx 1 nv b.2.2.length ((casts b.2.2).map (Value.int .i64))) (hSx : ∀ k, Sx k → w0.heap.size ≤ k) (hB : B ≤ w0.heap.size) (hO : Own w2 (fun k => ob = some k ∨ k = z) 76 3 q2 (bs.length + 1) (kcells bs vs ++ kcell b nv)) (hob : ∀ k, ob = some k → S1 k) (hz : w1.heap.size ≤ z) (hz2 : z ≤ w2.heap.size → True) (C2 : Chg (fun k => ob = some k) w1 w2) :
    BkAt w2 B q2 (bs ++ [b]) := by
  have h1 := C1.size
  have h2 := C2.size
  refine ⟨fun k => (ob = some k ∨ k = z) ∧ k < w2.heap.size, fun k => S2 k ∨ (Sx k ∧ k < w1.heap.size), vs ++ [nv], fun k hk => ⟨⟨?_, hk.2⟩, fun e => ?_⟩, fun k hk => ?_, ?_, BRows.snoc ?_ ?_⟩
  · rcases hk.1 with h | h
    · exact (d1 k (hob k h)).1.1
    · omega
  · rcases hk.1 with h | h
    · obtain ⟨a, b⟩ := d1 k (hob k h)
      rcases e with e | e
      · exact b e
      · have := hSx k e.1; omega
    · rcases e with e | e
      · have := (d2 k e).2; omega
      · have := e.2; omega
  · rcases hk with h | h
    · have := d2 k h; omega
    · have := hSx k h.1; have := h.2; omega
  · rw [kcells_app bs vs b nv hR.1, List.length_append]
    exact hO.monoIn fun k a b => ⟨b, a⟩
  · exact ((hR.chg C1 fun k hk e => by have := hT k e; have := (d2 k hk).2; omega).chg C2 fun k hk e => (d1 k (hob k e)).2 hk).monoIn fun k _ hk => .inl hk
  · exact ((hv.monoIn (S' := fun k => Sx k ∧ k < w1.heap.size) fun k a b => ⟨b, a⟩).chg C2 fun k hk e => by have := hSx k hk.1; have := (d1 k (hob k e)).1.2; omega).mono fun k hk => .inr hk

theorem BTinfo : (Try.prog.info? 76).map (fun i => (i.zero, i.size, i.bytes)) = some (some (.agg #[.int .i64 0, .int .i64 0, .slice none 0 0]), 3, 40) := by kernel_rfl
theorem INTinfo : (Try.prog.info? 3).map (fun i => (i.zero, i.size, i.bytes)) = some (some (.int .i64 0), 1, 8) := by kernel_rfl

/-- The number of a place among rising ones. -/
theorem bsearch_any {S : Nat → Prop} {w : World} {v : Value} {bs : List Nat} (h : Sl w S 1 v bs.length ((casts bs).map (Value.int .i64))) (hp : bs.Pairwise (· < ·)) (h0 : 0 < bs.length) (h1 : bs.length ≤ 1000000) (n : Nat) :
    Calls Try.prog 80 #[v, .int .i64 n] w (RetV fun r w' => ∃ ok, r = .tuple #[.int .i64 (cntN bs n), .bool ok] ∧ Chg NoB w w') := by
  obtain ⟨-, p, cap, rfl, hc, hs⟩ := h
  obtain ⟨g, of, rfl, -, hg, hcell⟩ := hs h0
  refine (Try.slices_BinarySearch_int g of bs.length cap (casts bs) n w (by rw [casts_len]; omega) (by omega) (fun j hj => ?_) ?_).mono ?_
  · rw [casts_len] at hj
    refine hcell j _ ?_
    rw [List.getElem?_map, casts_at hj]
    simp [casts, hj]
  · rw [List.take_of_length_le (by rw [casts_len]; omega)]
    unfold casts
    rw [List.pairwise_map]
    exact hp.imp fun h => by omega
  · rintro e w' ⟨rfl, q, rfl⟩
    refine ⟨_, rfl, (casts bs).take bs.length |>.contains n, ?_, (Chg.refl _ _).drewN q⟩
    have : ((casts bs).take bs.length).countP (fun x => decide (x < (n : Int))) = cntN bs n := by
      rw [List.take_of_length_le (by rw [casts_len]; omega)]
      unfold casts cntN
      rw [List.countP_map]
      congr 1
      funext p
      simp
    rw [this]
end Go.Proofs.Ytdkplhdinklflaa
