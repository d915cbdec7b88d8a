/- A page at a node: what it does, and what it says. Plain, no program. No condition. More small lemmas on memory: an append that has room, clear, rows of slices. No condition. A region that draws its order, by a list of steps: an operation that may be taken at any time (its value is known in every world that meets S), or one that is the only ready one. No condition. The audit's small functions: sets of nodes, bag, ring, a page at rest, what is between, senders, receivers. No condition. Maps with integer keys, as lists of pairs: look-up, store, delete, length. No condition. The audit: links at rest (senders, receivers), configs, what is right. No condition. -/
import Derived.Test.YtdjaeoeejcmhdaaGreatDoorFa
import Derived.Lib.SliceRun
import Derived.Test.YtdjaeoeejcmhdaaGreatDoorProg
import Derived.Maps.OwnOps
set_option linter.unusedVariables false
set_option linter.unusedSimpArgs false
namespace Go.Proofs.YtdjaeoeejcmhdaaGreatDoor
open Go.RowKit Go.RR
/-- A letter without bytes: to whom, kind, node, hops, set; are the page's bytes laid into it? -/
structure Lt where
  dst : Int
  kind : Int
  node : Int
  hops : Int
  set : Nat
  pg : Bool
/-- A page's state at a node; nobody stands in its line. -/
structure PgS where
  right : Int
  owner : Bool
  prob : Int
  set : Nat
  want : Int
  wait : Nat
  held : Bool
  forget : Int
/-- A turn: the state behind it, are bytes laid, what is said. -/
structure Trn where
  s : PgS
  lay : Bool
  l : List Lt
def PgS.busy (s : PgS) : Bool := decide (s.want ≠ 0) || s.held
def nbitF (n : Int) : Nat := if 0 ≤ n ∧ n < 16 then 2 ^ n.toNat else 0
def nhasF (s : Nat) (n : Int) : Bool := decide (s &&& nbitF n ≠ 0)
def naddF (s : Nat) (n : Int) : Nat := s ||| nbitF n
def ndropF (s : Nat) (n : Int) : Nat := s &&& (65535 ^^^ nbitF n)
def nlistF (s : Nat) : List Int := (((List.range 16).filter fun i : Nat => s.testBit i).map fun i : Nat => ((i : Nat) : Int))
def pgNewF (me owner : Int) : PgS := ⟨0, decide (owner = me), owner, 0, 0, 0, false, -1⟩
def holdF (s : PgS) (r : Int) : PgS := { s with right := r, want := 0, held := true }
def gatherF (me : Int) (s : PgS) : PgS × List Lt :=
  if s.set = 0 then (holdF s 2, []) else ({ s with want := 2, wait := s.set }, (nlistF s.set).map fun n => ⟨n, 5, me, 0, 0, false⟩)
def wantF (me : Int) (s : PgS) (r : Int) : Trn :=
  if s.busy = true ∨ (r ≠ 1 ∧ r ≠ 2) ∨ r ≤ s.right then ⟨s, false, []⟩
  else if s.owner = true ∧ (r = 2 ∨ s.set = 0) then ⟨(gatherF me s).1, false, (gatherF me s).2⟩
  else if s.owner = true then ⟨holdF s 1, false, []⟩
  else ⟨{ s with want := r }, false, [⟨s.prob, r, me, 0, 0, false⟩]⟩
/-- A message, its bytes apart. -/
structure Mg where
  kind : Int
  node : Int
  hops : Int
  set : Nat
def serveF (me : Int) (s : PgS) (m : Mg) : PgS × List Lt :=
  if s.owner = false then ({ s with prob := m.node }, [⟨s.prob, m.kind, m.node, min m.hops 254 + 1, m.set, false⟩])
  else if m.kind = 1 then ({ s with set := naddF s.set m.node, right := min s.right 1 }, [⟨m.node, 3, me, 0, 0, true⟩])
  else ({ s with owner := false, set := 0, right := 0, prob := m.node }, [⟨m.node, 4, me, 0, ndropF s.set m.node, true⟩])
def dropPF (me : Int) (s : PgS) (node : Int) : PgS × List Lt :=
  ({ s with right := 0, prob := if s.want = 0 then node else s.prob }, [⟨node, 6, me, 0, 0, false⟩])
def takeF (me : Int) (s : PgS) (m : Mg) : Trn :=
  if m.kind = 1 ∨ m.kind = 2 then ⟨(serveF me s m).1, false, (serveF me s m).2⟩
  else if m.kind = 3 then (if s.want = 1 ∧ s.owner = false then ⟨holdF { s with prob := m.node } 1, true, []⟩ else ⟨s, false, []⟩)
  else if m.kind = 4 then (if s.want = 2 ∧ s.owner = false then ⟨(gatherF me { s with owner := true, prob := me, set := ndropF m.set me }).1, true, (gatherF me { s with owner := true, prob := me, set := ndropF m.set me }).2⟩ else ⟨s, false, []⟩)
  else if m.kind = 5 then (if s.owner = true then ⟨s, false, []⟩ else if s.want = 1 ∨ s.held = true then ⟨{ s with forget := m.node }, false, []⟩ else ⟨(dropPF me s m.node).1, false, (dropPF me s m.node).2⟩)
  else if m.kind = 6 then (if s.want ≠ 2 ∨ s.owner = false ∨ nhasF s.wait m.node = false then ⟨s, false, []⟩
    else if ndropF s.wait m.node = 0 then ⟨holdF { s with wait := 0, set := ndropF s.set m.node } 2, false, []⟩
    else ⟨{ s with wait := ndropF s.wait m.node, set := ndropF s.set m.node }, false, []⟩)
  else ⟨s, false, []⟩
def doneF (me : Int) (s : PgS) : Trn :=
  if s.held = false then ⟨s, false, []⟩
  else if 0 ≤ s.forget then ⟨{ (dropPF me { s with held := false } s.forget).1 with forget := -1 }, false, (dropPF me { s with held := false } s.forget).2⟩
  else ⟨{ s with held := false }, false, []⟩
end Go.Proofs.YtdjaeoeejcmhdaaGreatDoor
set_option linter.unusedVariables false
set_option linter.unusedSimpArgs false
namespace Go.RR
open Go.RowKit

section
variable {P : Program} {w w' : World} {S S' : Nat → Prop} {E : TypeId} {size : Nat} {v : Value} {n : Nat} {us : List Value}

theorem Chg.undrew (h : Chg S w.drew w') : Chg S w w' := ⟨h.os, h.tape, h.output, h.size, h.block⟩

/-- Cells stored over an owned slice's row, from place k on. -/
theorem Own.setCells {g off n' cap : Nat} {us' : List Value} (h : Own w S E size (.slice (some ⟨g, off, none⟩) n cap) n us) (o : Nat) (vs : List Value) (ho : off ≤ o) (hv : o + vs.length ≤ off + cap * size) (hl : us'.length = n' * size) (hn : n' ≤ cap)
    (hu : ∀ j u, us'[j]? = some u → (vs[off + j - o]? = some u ∧ o ≤ off + j) ∨ (us[j]? = some u ∧ (off + j < o ∨ o + vs.length ≤ off + j))) :
    Own (w.setCells g o vs) S E size (.slice (some ⟨g, off, none⟩) n' cap) n' us' ∧ Chg (· = g) w (w.setCells g o vs) ∧ (w.setCells g o vs).heap.size = w.heap.size := by
  obtain ⟨hl0, hv0 | ⟨g', off', cap', cur, e, hg, hb, hn0, hm, hf, hc⟩⟩ := h
  · cases hv0.1
  · cases e
    obtain ⟨c', k1, k2, k3, k4, k5, k6, k7, k8, k9⟩ := setCells_blk vs o w cur hb (by omega)
    refine ⟨⟨hl, .inr ⟨g, off, cap, c', rfl, hg, k1, hn, hm, by omega, fun j u hj => ?_⟩⟩, ⟨k7, k8, k9, by omega, fun k _ hk => k5 k hk⟩, k6⟩
    rcases hu j u hj with ⟨h1, h2⟩ | ⟨h1, h2⟩
    · have := k3 _ u h1
      rwa [show o + (off + j - o) = off + j by omega] at this
    · rw [k4 _ h2]; exact hc j u h1

/-- An owned slice that is not empty: where it lies. -/
theorem Own.spot {v : Value} (h : Own w S E size v n us) (h0 : 0 < n) : ∃ g off cap, v = .slice (some ⟨g, off, none⟩) n cap ∧ S g ∧ g < w.heap.size ∧ n ≤ cap ∧ (∀ j u, us[j]? = some u → w.cell? ⟨g, off + j, none⟩ = some u) ∧ ∀ j, w.frozen? ⟨g, j, none⟩ = false := by
  obtain ⟨-, ⟨-, h1⟩ | ⟨g, off, cap, cur, e, h1, h2, h3, h4, h5, h6⟩⟩ := h
  · omega
  · exact ⟨g, off, cap, e, h1, h2.lt, h3, fun j u hu => h2.cell' (h6 j u hu), fun j => h2.frozen j⟩
theorem Own.at {g off cap : Nat} (h : Own w S E size (.slice (some ⟨g, off, none⟩) n cap) n us) : S g ∧ g < w.heap.size ∧ (∀ j u, us[j]? = some u → w.cell? ⟨g, off + j, none⟩ = some u) ∧ ∀ j, w.frozen? ⟨g, j, none⟩ = false := by
  obtain ⟨-, ⟨h0, h1⟩ | ⟨g', off', cap', cur, e, h1, h2, h3, h4, h5, h6⟩⟩ := h
  · cases h0
  · cases e; exact ⟨h1, h2.lt, fun j u hu => h2.cell' (h6 j u hu), fun j => h2.frozen j⟩
theorem Own.form {v : Value} (h : Own w S E size v n us) : ∃ p c, v = .slice p n c := by obtain ⟨-, p, c, e, -⟩ := h.sl; exact ⟨p, c, e⟩
theorem Sl.form {v : Value} (h : Sl w S size v n us) : ∃ p c, v = .slice p n c := by obtain ⟨-, p, c, e, -⟩ := h; exact ⟨p, c, e⟩

/-- append, as one operation. -/
theorem opwp_app {o : Oper} {a : Act} {K : Act → World → Prop} {Q : Exit → Act → World → Prop} (s x : Operand) (t : TypeId)
    (ho : o.op = .call { callee := .builtin .append, args := #[s, x], argTypes := #[t, t] })
    (i : TypeInfo) (z : Value) (bytes : Nat) (ht : P.underlying t = some (.slice E)) (hi : P.info? E = some i) (hz : i.zero = some z)
    (hsize : i.size = size) (hby : i.bytes = bytes) (hzs : z.cells.size = size) (hs : a.eval s = v) (hown : Own w S E size v n us) (xv : Value) (m : Nat) (news : List Value) (hxv : a.eval x = xv) (hx : Sl w S' size xv m news) (h1 : ∀ u ∈ news, u.oneCell' = true)
    (h63 : n + m ≤ maxLen) (hbytes : (n + m) * bytes ≤ 140737488355328)
    (h : ∀ v' w', Own w' (fun k => v.ownBlock = some k ∨ k = w.heap.size) E size v' (n + m) (us ++ news) → w.grownBy w' v.ownBlock → (0 < m → v' ≠ .slice none 0 0) → K (a.put o.dst v') w') : o.wp P a w K Q := by
  obtain ⟨v', w', hr, h2, h3, h4⟩ := run_app (P := P) t o.type i z bytes ht hi hz hsize hby hzs hown xv m news hx h1 h63 hbytes
  unfold Oper.wp execOp
  simp only [ho, resolve, invoke, builtin, Sem.run_bind, Sem.run_pure, Result.andThen_ok, List.map_toArray, List.map_cons, List.map_nil, hs, hxv, hr]
  exact h v' w' h2 h3 h4

/-- A list of slices, by place. -/
def RowsAt (w : World) (S : Nat → Prop) (vs : List Value) (uss : List (List Value)) : Prop :=
  vs.length = uss.length ∧ ∀ (i : Nat) (us : List Value), uss[i]? = some us → ∃ v : Value, vs[i]? = some v ∧ Sl w S 1 v us.length us
theorem RowsAt.nil (w : World) (S : Nat → Prop) : RowsAt w S [] [] := ⟨rfl, fun i us h => by simp at h⟩
theorem RowsAt.chg {vs : List Value} {uss : List (List Value)} (h : RowsAt w S vs uss) (c : Chg S' w w') (hs : ∀ k, S k → ¬ S' k) : RowsAt w' S vs uss :=
  ⟨h.1, fun i us hi => by obtain ⟨v, h1, h2⟩ := h.2 i us hi; exact ⟨v, h1, h2.chg c hs⟩⟩
theorem RowsAt.chg0 {vs : List Value} {uss : List (List Value)} (h : RowsAt w S vs uss) (c : Chg NoB w w') : RowsAt w' S vs uss := h.chg c fun _ _ => id
theorem RowsAt.monoIn {vs : List Value} {uss : List (List Value)} (h : RowsAt w S vs uss) (hs : ∀ k, k < w.heap.size → S k → S' k) : RowsAt w S' vs uss :=
  ⟨h.1, fun i us hi => by obtain ⟨v, h1, h2⟩ := h.2 i us hi; exact ⟨v, h1, h2.monoIn hs⟩⟩
theorem RowsAt.snoc {vs : List Value} {uss : List (List Value)} (h : RowsAt w S vs uss) {us : List Value} (hv : Sl w S 1 v us.length us) : RowsAt w S (vs ++ [v]) (uss ++ [us]) := by
  refine ⟨by simp [h.1], fun i x hx => ?_⟩
  rw [List.getElem?_append] at hx
  split at hx
  · rename_i hi
    obtain ⟨v', h1, h2⟩ := h.2 i x hx
    exact ⟨v', by rw [List.getElem?_append_left (by have := h.1; omega)]; exact h1, h2⟩
  · rename_i hi
    have hi2 : i = uss.length := by have := (List.getElem?_eq_some_iff.1 hx).1; simp at this; omega
    subst hi2
    simp at hx
    subst hx
    exact ⟨v, by rw [List.getElem?_append_right (by have := h.1; omega), h.1]; simp, hv⟩
end
end Go.RR
set_option linter.unusedVariables false
namespace Go.RR
open Go.RowKit
section
variable {P : Program} {ops : Array Oper} {md : Region.Mode} {S : World → Prop} {Q : Exit → Act → World → Prop}
def mixB (md : Region.Mode) (ops : Array Oper) (g n : Nat) : List (Bool × Nat) → Array Bool → Bool
  | [], listed => Region.seqB md ops g n listed
  | (true, k) :: l, listed => decide (k < n) && (((ops[k]?).bind (·.dst)).isSome) && (Region.ready md ops listed).contains k && Region.free md ops listed k && mixB md ops g n l (listed.setIfInBounds k true)
  | (false, k) :: l, listed => decide (k < n) && decide (Region.ready md ops listed = [k]) && mixB md ops g n l (listed.setIfInBounds k true)
def mixAllB (md : Region.Mode) (ops : Array Oper) (n : Nat) (l : List (Bool × Nat)) : Bool :=
  Region.noSelect ops && decide (n < ops.size) && decide (l.length = n) && Region.sinkB md ops n && Region.chainB md ops n && mixB md ops (ops.size - n) n l (Array.replicate ops.size false)
def wpMix (P : Program) (ops : Array Oper) (Q : Exit → Act → World → Prop) (S : World → Prop) (R : Act → World → Prop) : List (Bool × Oper) → Act → World → Prop
  | [], a, w => R a w
  | (true, o) :: l, a, w => ∃ v, YieldsIf P ops S o v a ∧ wpMix P ops Q S R l (a.put o.dst v) w
  | (false, o) :: l, a, w => if Region.wanted o (yielded ops a.tmps) then o.wp P a w (fun a' w' => S w' ∧ wpMix P ops Q S R l a' w') Q else S w ∧ wpMix P ops Q S R l (a.put o.dst undef) w
def pickMix (ops : Array Oper) : List (Bool × Nat) → List (Bool × Oper)
  | [] => []
  | (b, k) :: l => (b, (ops[k]?).getD default) :: pickMix ops l
theorem pickMix_nil (ops : Array Oper) : pickMix ops [] = [] := rfl
theorem pickMix_cons (ops : Array Oper) (b : Bool) (k : Nat) (l : List (Bool × Nat)) : pickMix ops ((b, k) :: l) = (b, (ops[k]?).getD default) :: pickMix ops l := rfl
theorem anyK_mix {n : Nat} (hsel : Region.noSelect ops = true) (hs : Region.sinkB md ops n = true) (hc : Region.chainB md ops n = true) (hn : n < ops.size)
    (hQ : ∀ c a d v w, Q (.panic c) (a.put (some d) v) w → Q (.panic c) a w) :
    ∀ (A : List (Bool × Nat)) (listed : Array Bool) (a : Act) (w : World), S w → HeadInv md ops n listed → mixB md ops (ops.size - n) n A listed = true →
    wpMix P ops Q S (wpList P ops Q (ops.toList.drop n)) (pickMix ops A) a w → anyK P md ops Q S n (A.length + (ops.size - n)) listed a w
  | [], listed, a, w, hS, _, hB, h => by
    have hl : (ops.toList.drop n).length = ops.size - n := by simp
    rw [List.length_nil, Nat.zero_add, ← hl]
    exact anyK_seq _ n listed a w (Nat.le_refl _) (fun j => by simp) (by rw [hl]; exact hB) h
  | (true, k) :: A, listed, a, w, hS, inv, hB, h => by
    simp only [mixB, Bool.and_eq_true, decide_eq_true_eq] at hB
    obtain ⟨⟨⟨⟨hkn, hd⟩, hr⟩, hf⟩, hB'⟩ := hB
    have hr' : k ∈ Region.ready md ops listed := by simpa using hr
    obtain ⟨hkun, o, h0, _⟩ := mem_ready.1 hr'
    rw [pickMix_cons, h0, Option.getD_some] at h
    obtain ⟨v, hy, hK⟩ := h
    rw [h0] at hd
    obtain ⟨d, hd'⟩ := Option.isSome_iff_exists.1 hd
    simp only [Option.bind_some] at hd'
    rw [show ((true, k) :: A).length + (ops.size - n) = (A.length + (ops.size - n)) + 1 by simp; omega]
    exact anyK_first h0 (Region.noSelect_spec hsel) hs hc hn hkn (fun c a w => by rw [hd']; exact hQ c a d _ w) _ listed a w inv (Region.free_spec h0 hf) hr' hy hS
      (anyK_mix hsel hs hc hn hQ A _ _ w hS (inv.set hr' hkn) hB' hK)
  | (false, k) :: A, listed, a, w, hS, inv, hB, h => by
    simp only [mixB, Bool.and_eq_true, decide_eq_true_eq] at hB
    obtain ⟨⟨hkn, hr⟩, hB'⟩ := hB
    rw [show ((false, k) :: A).length + (ops.size - n) = (A.length + (ops.size - n)) + 1 by simp; omega]
    refine ⟨fun h1 => (by rw [hr] at h1; cases h1), fun i hi => ?_⟩
    have hr' : k ∈ Region.ready md ops listed := by rw [hr]; exact List.mem_singleton.2 rfl
    obtain ⟨_, o, h0, _⟩ := mem_ready.1 hi
    have hik : i = k := by rw [hr] at hi; simpa using hi
    subst hik
    rw [pickMix_cons, h0, Option.getD_some] at h
    unfold wpMix at h
    unfold wpOp
    simp only [h0]
    split
    · rename_i hw
      rw [if_pos hw] at h
      exact .inl (Oper.wp_mono (fun a' w' h' => ⟨fun _ => h'.1, anyK_mix hsel hs hc hn hQ A _ a' w' h'.1 (inv.set hr' hkn) hB' h'.2⟩) h)
    · rename_i hw
      rw [if_neg hw] at h
      exact ⟨fun _ => h.1, anyK_mix hsel hs hc hn hQ A _ _ w h.1 (inv.set hr' hkn) hB' h.2⟩
theorem wp_region_mix {id : Nat} {a : Act} {w : World} {l : List Oper} (n : Nat) (A : List (Bool × Nat)) (S : World → Prop) (hm : P.follows .mixedOrders = true) (hB : mixAllB .any l.toArray n A = true)
    (hQ : ∀ c a d v w, Q (.panic c) (a.put (some d) v) w → Q (.panic c) a w) (hS : S w.drew)
    (h : wpMix P l.toArray Q S (wpList P l.toArray Q (l.drop n)) (pickMix l.toArray A) a w.drew) : (Code.region id l.toArray true).wp P Q a w := by
  simp only [mixAllB, Bool.and_eq_true, decide_eq_true_eq] at hB
  obtain ⟨⟨⟨⟨⟨hsel, hn⟩, hAl⟩, hs⟩, hc⟩, ht⟩ := hB
  have inv0 : HeadInv .any l.toArray n (Array.replicate l.toArray.size false) :=
    ⟨by simp, fun j oj _ hl => (by rw [getD_replicate_false] at hl; cases hl), fun t _ ht => getD_in (by simpa using ht) (getD_replicate_false _ _)⟩
  have := anyK_mix (P := P) (S := S) hsel hs hc hn hQ A _ a w.drew hS inv0 ht h
  rw [show A.length + (l.toArray.size - n) = l.toArray.size by omega] at this
  exact wp_region_any hm (anyK_any _ _ _ _ this)
theorem wpMix_nil {R : Act → World → Prop} {a : Act} {w : World} (h : R a w) : wpMix P ops Q S R [] a w := h
theorem wpMix_take {R : Act → World → Prop} {o : Oper} {l : List (Bool × Oper)} {a : Act} {w : World} (hg : o.guard = none) (h : ∃ v, (∀ w, S w → (execOp a.eval o).run P w = .ok (.value v) w) ∧ wpMix P ops Q S R l (a.put o.dst v) w) : wpMix P ops Q S R ((true, o) :: l) a w :=
  ⟨h.choose, .inl ⟨by simp [Region.wanted, hg], h.choose_spec.1⟩, h.choose_spec.2⟩
theorem wpMix_force {R : Act → World → Prop} {o : Oper} {l : List (Bool × Oper)} {a : Act} {w : World} (hg : o.guard = none)
    (h : ∀ K : Act → World → Prop, (∀ a' w', S w' → wpMix P ops Q S R l a' w' → K a' w') → o.wp P a w K Q) : wpMix P ops Q S R ((false, o) :: l) a w := by
  unfold wpMix
  rw [if_pos (by simp [Region.wanted, hg])]
  exact h _ fun a' w' h1 h2 => ⟨h1, h2⟩
end
end Go.RR
set_option linter.unusedVariables false
set_option linter.unusedSimpArgs false
namespace Go.Proofs.YtdjaeoeejcmhdaaGreatDoor
open Go.RowKit Go.RR










theorem nbit_any (n : Nat) (hn : n < 16) (w : World) : Calls Tryz.prog 146 #[.int .i64 n] w (RetW (.int .u16 ((2 ^ n : Nat) : Int)) fun w' => w' = w) := by
  have t1 : decide ((n : Int) < 0) = false := decide_eq_false (by omega)
  have t2 : decide ((16 : Int) ≤ n) = false := decide_eq_false (by omega)
  iterate 16 (rcases n with _ | n; · (go_enter Tryz.func146, Tryz.ntmps146; go_wp2_with fail; go_ret; exact ⟨rfl, rfl⟩))
  omega
/-- A ring that nothing was pushed into. -/
def ringC : Array Value := #[.slice none 0 0, .int .i64 0, .int .i64 0, .int .i64 16]
theorem ringNew_any (w : World) : Calls Tryz.prog 93 #[.int .i64 16] w (RetW (.pointer (some ⟨w.heap.size, 0, none⟩)) fun w' => Blk w' w.heap.size ringC 201 ∧ Chg NoB w w') := by
  have hB := Lib.hid (Blk.new w ringC 201)
  have hC := Lib.hid ((Chg.refl NoB w).alloc (.cells ringC 201))
  go_enter Tryz.func93, Tryz.ntmps93
  go_wp2_with fail
  go_ret
  exact ⟨rfl, hB.out, hC.out⟩
theorem ringLen_any {w : World} {rb : Nat} (h : Blk w rb ringC 201) : Calls Tryz.prog 66 #[.pointer (some ⟨rb, 0, none⟩)] w (RetW (.int .i64 0) fun w' => w' = w) := by
  have f := h.cell' (i := 2) (v := .int .i64 0) rfl
  have fl := h.lt
  go_enter Tryz.func66, Tryz.ntmps66
  go_wp2_with fail
  go_ret
  exact ⟨rfl, rfl⟩
def pgC (me owner number : Int) (rb : Nat) : Array Value := #[.int .i64 me, .int .i64 number, .int .i64 0, .bool (owner == me), .int .i64 owner, .int .u16 0, .int .i64 0, .int .u16 0, .bool false, .int .i64 (-1), .int .i64 0, .pointer (some ⟨rb, 0, none⟩), .slice none 0 0, .bool false]
/-- A page at rest. -/
structure PgAt (w : World) (pb rb : Nat) (me owner number : Int) : Prop where
  blk : Blk w pb (pgC me owner number rb) 128
  ring : Blk w rb ringC 201
theorem PgAt.chg0 {w w' : World} {pb rb : Nat} {me owner number : Int} (h : PgAt w pb rb me owner number) (c : Chg NoB w w') : PgAt w' pb rb me owner number := ⟨c.blk0 h.blk, c.blk0 h.ring⟩
set_option maxHeartbeats 1000000 in
set_option maxRecDepth 100000 in
theorem pageNew_any (me owner number : Int) (w : World) : Calls Tryz.prog 47 #[.int .i64 me, .int .i64 owner, .int .i64 number] w (RetV fun v w' => ∃ pb rb, v = .pointer (some ⟨pb, 0, none⟩) ∧ w.heap.size ≤ pb ∧ w.heap.size ≤ rb ∧ PgAt w' pb rb me owner number ∧ Chg NoB w w') := by
  obtain ⟨b, hb⟩ : ∃ b, (owner == me) = b := ⟨_, rfl⟩
  have HBE := Lib.hid hb
  have hB := Lib.hid (Blk.new w #[.int .i64 0, .bool b, .int .i64 owner, .int .u16 0, .int .i64 0, .int .u16 0, .bool false, .int .i64 (-1), .int .i64 0] 99)
  have hC := Lib.hid ((Chg.refl NoB w).alloc (.cells #[.int .i64 0, .bool b, .int .i64 owner, .int .u16 0, .int .i64 0, .int .u16 0, .bool false, .int .i64 (-1), .int .i64 0] 99))
  go_enter Tryz.func47, Tryz.ntmps47
  go_upto_region 2 with fail
  obtain ⟨bs, hbs⟩ : ∃ b, w.heap.size = b := ⟨_, rfl⟩
  have HW := Lib.hid hbs
  rw [hbs] at hB
  simp only [hbs]
  generalize w.alloc (.cells #[.int .i64 0, .bool b, .int .i64 owner, .int .u16 0, .int .i64 0, .int .u16 0, .bool false, .int .i64 (-1), .int .i64 0] 99) = w1 at *
  clear hbs hb
  have g : ∀ w', Chg NoB w1 w' → ∀ i, w'.cell? ⟨bs, i, none⟩ = (#[.int .i64 0, .bool b, .int .i64 owner, .int .u16 0, .int .i64 0, .int .u16 0, .bool false, .int .i64 (-1), .int .i64 0] : Array Value)[i]? := fun w' c i => (c.blk0 hB.out).cell i
  have gl : ∀ w', Chg NoB w1 w' → bs < w'.heap.size := fun w' c => (c.blk0 hB.out).lt
  refine wp_region_mix 4 [(true, 0), (true, 1), (true, 2), (false, 3)] (fun w' => Chg NoB w1 w') (by kernel_rfl) (by kernel_rfl) (fun _ _ _ _ _ h => h) ((Chg.refl NoB w1).drew) ?_
  simp only [pickMix_nil, pickMix_cons, Option.getD_some, List.getElem?_toArray, List.getElem?_cons_zero, List.getElem?_cons_succ, List.cons_append, List.nil_append, List.drop_succ_cons, List.drop_zero]
  iterate 3
   refine wpMix_take rfl ?_
   apply Exists.intro
   refine ⟨fun wS hS => ?_, ?_⟩
   · try dsimp only at hS
     have cS := hS
     go_simp
     try rfl
   simp only [Act.put, List.setIfInBounds_toArray, List.set_cons_zero, List.set_cons_succ]
  refine wpMix_force rfl (fun K hK => ?_)
  go_simp
  refine (ringNew_any _).mono ?_
  rintro e w2 ⟨rfl, hR, hC2⟩
  have C2 : Chg NoB w1 w2 := (Chg.refl NoB w1).drew.step hC2
  have HR := Lib.hid hR
  refine hK _ _ C2 ?_
  clear hK K hR hC2
  refine wpMix_nil ?_
  have hP := Blk.new w2 #[.int .i64 me, .int .i64 number, .int .i64 0, .bool b, .int .i64 owner, .int .u16 0, .int .i64 0, .int .u16 0, .bool false, .int .i64 (-1), .int .i64 0, .pointer (some ⟨w1.heap.size, 0, none⟩), .slice none 0 0, .bool false] 128
  have HP := Lib.hid hP
  clear hP g gl
  have HR2 := Lib.hid (HR.out.alloc (.cells #[.int .i64 me, .int .i64 number, .int .i64 0, .bool b, .int .i64 owner, .int .u16 0, .int .i64 0, .int .u16 0, .bool false, .int .i64 (-1), .int .i64 0, .pointer (some ⟨w1.heap.size, 0, none⟩), .slice none 0 0, .bool false] 128))
  have HC3 := Lib.hid ((hC.out.step C2).alloc (.cells #[.int .i64 me, .int .i64 number, .int .i64 0, .bool b, .int .i64 owner, .int .u16 0, .int .i64 0, .int .u16 0, .bool false, .int .i64 (-1), .int .i64 0, .pointer (some ⟨w1.heap.size, 0, none⟩), .slice none 0 0, .bool false] 128))
  have h1 := Lib.hid (And.intro hC.out.size C2.size)
  clear C2 hC
  go_wp2_with fail
  go_ret
  refine ⟨_, rfl, _, _, rfl, Nat.le_trans h1.out.1 h1.out.2, h1.out.1, ⟨?_, HR2.out⟩, HC3.out⟩
  unfold pgC
  rw [HBE.out]
  exact HP.out
end Go.Proofs.YtdjaeoeejcmhdaaGreatDoor
set_option linter.unusedVariables false
namespace Go.RR
open Go.RowKit

/-- Block b is a map whose entries are m, in their order. -/
def MapAt (w : World) (b : Nat) (k : IntKind) (m : List (Int × Value)) : Prop :=
  ∃ es clock, w.heap[b]? = some (.map es clock) ∧ es.toList.map (fun e => (e.key, e.val)) = m.map fun p => (Value.int k p.1, p.2)

def mlook (m : List (Int × Value)) (a : Int) : Option Value := (m.find? fun p => p.1 == a).map (·.2)
def mdrop : List (Int × Value) → Int → List (Int × Value)
  | [], _ => []
  | p :: m, a => if p.1 = a then m else p :: mdrop m a
def mput : List (Int × Value) → Int → Value → List (Int × Value)
  | [], a, v => [(a, v)]
  | p :: m, a, v => if p.1 = a then (a, v) :: m else p :: mput m a v

section
variable {w w' : World} {b : Nat} {k : IntKind} {m : List (Int × Value)} {P : Program}

theorem MapAt.lt (h : MapAt w b k m) : b < w.heap.size := by obtain ⟨es, c, h, _⟩ := h; exact (Array.getElem?_eq_some_iff.1 h).1
theorem MapAt.chg {S : Nat → Prop} (h : MapAt w b k m) (c : Chg S w w') (hn : ¬ S b) : MapAt w' b k m := by
  have := h.lt
  obtain ⟨es, cl, h1, h2⟩ := h
  exact ⟨es, cl, (c.block b this hn).trans h1, h2⟩
theorem MapAt.new (w : World) (k : IntKind) : MapAt (w.alloc (.map #[] 0)) w.heap.size k [] := ⟨#[], 0, heap_alloc_new w _, rfl⟩

/-- Where a key lies. -/
def midx : List (Int × Value) → Int → Option Nat
  | [], _ => none
  | p :: m, a => if p.1 = a then some 0 else (midx m a).map (· + 1)

theorem findNow_of (a : Int) : ∀ (es : List MapEntry) (m : List (Int × Value)) (i : Nat), es.map (fun e => (e.key, e.val)) = m.map (fun p => (Value.int k p.1, p.2)) →
    Instr.findNow (.int k) (.int k a) es i = some ((midx m a).bind fun j => (m[j]?).map fun p => (i + j, p.2))
  | [], [], i, _ => rfl
  | [], p :: m, i, h => by simp at h
  | e :: es, [], i, h => by simp at h
  | e :: es, p :: m, i, h => by
    simp only [List.map_cons, List.cons.injEq, Prod.mk.injEq] at h
    obtain ⟨⟨h1, h2⟩, h3⟩ := h
    simp only [Instr.findNow, h1, Instr.sameNow, if_true]
    by_cases hp : p.1 = a
    · subst hp
      simp [midx, h2]
    · have : (a == p.1) = false := by simp; omega
      rw [this]
      simp only
      rw [findNow_of a es m (i + 1) h3]
      simp only [midx, if_neg hp]
      cases hm : midx m a with
      | none => rfl
      | some j => simp [Nat.add_assoc, Nat.add_comm 1 j]

theorem midx_some {a : Int} : ∀ {m : List (Int × Value)} {j : Nat}, midx m a = some j → ∃ v, m[j]? = some (a, v) ∧ mlook m a = some v ∧ m.eraseIdx j = mdrop m a ∧ ∀ v, m.set j (a, v) = mput m a v
  | [], j, h => by simp [midx] at h
  | p :: m, j, h => by
    by_cases hp : p.1 = a
    · simp only [midx, if_pos hp, Option.some.injEq] at h
      subst h
      exact ⟨p.2, by simp [← hp], by simp [mlook, hp], by simp [mdrop, hp], fun v => by simp [mput, hp]⟩
    · simp only [midx, if_neg hp] at h
      obtain ⟨j', h1, rfl⟩ := Option.map_eq_some_iff.1 h
      obtain ⟨v, k1, k2, k3, k4⟩ := midx_some h1
      have hb : (p.1 == a) = false := by simpa using hp
      exact ⟨v, by simpa using k1, by simpa [mlook, hb] using k2, by simp [mdrop, hp, k3], fun v => by simp [mput, hp, k4]⟩
theorem midx_none {a : Int} : ∀ {m : List (Int × Value)}, midx m a = none → mlook m a = none ∧ mdrop m a = m ∧ ∀ v, mput m a v = m ++ [(a, v)]
  | [], _ => ⟨rfl, rfl, fun _ => rfl⟩
  | p :: m, h => by
    by_cases hp : p.1 = a
    · simp [midx, hp] at h
    · simp only [midx, if_neg hp, Option.map_eq_none_iff] at h
      obtain ⟨k1, k2, k3⟩ := midx_none h
      have hb : (p.1 == a) = false := by simpa using hp
      exact ⟨by simpa [mlook, hb] using k1, by simp [mdrop, hp, k2], fun v => by simp [mput, hp, k3]⟩

theorem run_findKey {kt : TypeId} (ht : P.underlying kt = some (.int k)) (a : Int) (es : List MapEntry) (hm : es.map (fun e => (e.key, e.val)) = m.map (fun p => (Value.int k p.1, p.2))) :
    (Instr.findKey kt (.int k a) es).run P w = .ok ((midx m a).bind fun j => (m[j]?).map fun p => (j, p.2)) w := by
  simp only [Instr.findKey, Sem.run_bind, run_underlying ht, Result.andThen_ok, findNow_of a es m 0 hm, Sem.run_pure, Nat.zero_add]

theorem run_checkKey {kt : TypeId} (ht : P.underlying kt = some (.int k)) (e : Bool) (a : Int) : (Instr.checkKey e 10000 kt (.int k a)).run P w = .ok () w := by
  unfold Instr.checkKey
  simp [run_underlying ht]

theorem run_look2 {t kt e : TypeId} {i : TypeInfo} {z : Value} (ht : P.underlying t = some (.map kt e)) (hk : P.underlying kt = some (.int k)) (hi : P.info? e = some i) (hz : i.zero = some z) (h : MapAt w b k m) (a : Int) :
    (Instr.lookup t (.map (some b)) (.int k a) true).run P w = .ok (.tuple #[(mlook m a).getD z, .bool (mlook m a).isSome]) w := by
  obtain ⟨es, c, h1, h2⟩ := h
  have hg : (getObj b).run P w = .ok (.map es c) w := by simp [getObj, Sem.run, h1]
  have hf := run_findKey (P := P) (w := w) hk a es.toList h2
  have hc := run_checkKey (P := P) (w := w) hk es.isEmpty a
  cases hm : midx m a with
  | none =>
    obtain ⟨k1, -, -⟩ := midx_none hm
    rw [hm] at hf
    simp only [Option.bind_none] at hf
    simp [Instr.lookup, run_underlying ht, hg, hc, hf, zeroValue, typeInfo, hi, hz, k1]
  | some j =>
    obtain ⟨v, k1, k2, -, -⟩ := midx_some hm
    rw [hm] at hf
    simp only [Option.bind_some, k1, Option.map_some] at hf
    simp [Instr.lookup, run_underlying ht, hg, hc, hf, k2]
theorem run_look1 {t kt e : TypeId} {i : TypeInfo} {z : Value} (ht : P.underlying t = some (.map kt e)) (hk : P.underlying kt = some (.int k)) (hi : P.info? e = some i) (hz : i.zero = some z) (h : MapAt w b k m) (a : Int) :
    (Instr.lookup t (.map (some b)) (.int k a) false).run P w = .ok ((mlook m a).getD z) w := by
  obtain ⟨es, c, h1, h2⟩ := h
  have hg : (getObj b).run P w = .ok (.map es c) w := by simp [getObj, Sem.run, h1]
  have hf := run_findKey (P := P) (w := w) hk a es.toList h2
  have hc := run_checkKey (P := P) (w := w) hk es.isEmpty a
  cases hm : midx m a with
  | none =>
    obtain ⟨k1, -, -⟩ := midx_none hm
    rw [hm] at hf
    simp only [Option.bind_none] at hf
    simp [Instr.lookup, run_underlying ht, hg, hc, hf, zeroValue, typeInfo, hi, hz, k1]
  | some j =>
    obtain ⟨v, k1, k2, -, -⟩ := midx_some hm
    rw [hm] at hf
    simp only [Option.bind_some, k1, Option.map_some] at hf
    simp [Instr.lookup, run_underlying ht, hg, hc, hf, k2]

/-- A world with another map in block b. -/
def setMap (w : World) (b : Nat) (es : Array MapEntry) (c : Nat) : World := { w with heap := w.heap.setIfInBounds b (.map es c) }

theorem setMap_at {es : Array MapEntry} {c : Nat} {es' : Array MapEntry} {c' : Nat} (h : w.heap[b]? = some (.map es c)) : (setMap w b es' c').heap[b]? = some (.map es' c') := by
  have := (Array.getElem?_eq_some_iff.1 h).1
  simp [setMap, this]
theorem setMap_chg (w : World) (b : Nat) (es : Array MapEntry) (c : Nat) : Chg (· = b) w (setMap w b es c) :=
  ⟨rfl, rfl, rfl, by simp [setMap], fun k hk hn => by simp only [setMap]; rw [Array.getElem?_setIfInBounds_ne (fun e => hn e.symm)]⟩

theorem run_mapput {t kt e : TypeId} (ht : P.underlying t = some (.map kt e)) (hk : P.underlying kt = some (.int k)) (h : MapAt w b k m) (a : Int) (v : Value) :
    ∃ w', (Instr.mapUpdate t (.map (some b)) (.int k a) v).run P w = .ok () w' ∧ MapAt w' b k (mput m a v) ∧ Chg (· = b) w w' := by
  obtain ⟨es, c, h1, h2⟩ := h
  have hg : (getObj b).run P w = .ok (.map es c) w := by simp [getObj, Sem.run, h1]
  have hs : ∀ o, (setObj b o).run P w = .ok () { w with heap := w.heap.setIfInBounds b o } := fun o => by simp [setObj, Sem.run, h1]
  have hf := run_findKey (P := P) (w := w) hk a es.toList h2
  have hc := run_checkKey (P := P) (w := w) hk false a
  cases hm : midx m a with
  | none =>
    obtain ⟨-, -, k1⟩ := midx_none hm
    rw [hm] at hf
    simp only [Option.bind_none] at hf
    refine ⟨setMap w b (es.push { key := .int k a, val := v, born := c }) (c + 1), by simp [Instr.mapUpdate, run_underlying ht, hg, hc, hf, hs, setMap], ⟨_, _, setMap_at h1, ?_⟩, setMap_chg _ _ _ _⟩
    rw [k1 v]; simp [h2]
  | some j =>
    obtain ⟨u, k1, k2, -, k3⟩ := midx_some hm
    rw [hm] at hf
    simp only [Option.bind_some, k1, Option.map_some] at hf
    have hl : es.size = m.length := by have := congrArg List.length h2; simpa using this
    have hj : j < es.size := by rw [hl]; exact (List.getElem?_eq_some_iff.1 k1).1
    have hkey : (es[j]?.map (·.key)).getD (.int k a) = .int k a := by
      have : (es.toList.map fun e => (e.key, e.val))[j]? = some (.int k a, u) := by rw [h2, List.getElem?_map, k1]; rfl
      rw [List.getElem?_map, Array.getElem?_toList] at this
      cases he : es[j]? with
      | none => rfl
      | some e => rw [he] at this; simp at this; simp [this.1]
    have hst : (Instr.keyThatStays (.int k a) (.int k a)).run P w = .ok (.int k a) w := by simp [Instr.keyThatStays, Instr.sameBits]
    refine ⟨setMap w b (es.modify j fun e => { e with key := .int k a, val := v }) c, by simp only [Instr.mapUpdate, Sem.run_bind, run_underlying ht, Result.andThen_ok, hg, hc, hf, hkey, hst, hs, setMap], ⟨_, c, setMap_at h1, ?_⟩, setMap_chg _ _ _ _⟩
    rw [← k3 v]
    apply List.ext_getElem?
    intro i
    rw [List.getElem?_map, Array.getElem?_toList, Array.getElem?_modify, List.getElem?_map, List.getElem?_set]
    have hi : (es.toList.map fun e => (e.key, e.val))[i]? = (m.map fun p => (Value.int k p.1, p.2))[i]? := by rw [h2]
    rw [List.getElem?_map, List.getElem?_map, Array.getElem?_toList] at hi
    by_cases hij : j = i
    · subst hij
      have hjm : j < m.length := by omega
      simp [hj, hjm]
    · simp only [if_neg hij]
      exact hi

theorem wpList_mapput {ops : Array Oper} {rest : List Oper} {o : Oper} {a : Act} {Q : Exit → Act → World → Prop} (hgd : o.guard = none) (s x y : Operand) (t kt e : TypeId)
    (ho : o.op = .mapUpdate t s x y) (ht : P.underlying t = some (.map kt e)) (hk : P.underlying kt = some (.int k)) (hs : a.eval s = .map (some b)) (h : MapAt w b k m) (key : Int) (hx : a.eval x = .int k key) (v : Value) (hy : a.eval y = v)
    (hc : ∀ w', MapAt w' b k (mput m key v) → Chg (· = b) w w' → wpList P ops Q rest (a.put o.dst undef) w') : wpList P ops Q (o :: rest) a w := by
  refine wpList_plain hgd fun K hK => ?_
  obtain ⟨w', hr, h2, h3⟩ := run_mapput (P := P) ht hk h key v
  have hc2 := hK _ _ (hc w' h2 h3)
  unfold Oper.wp execOp
  simp [ho, hs, hx, hy, hr, Oper.upon]
  exact hc2
end
end Go.RR
set_option linter.unusedVariables false
set_option linter.unusedSimpArgs false
namespace Go.Proofs.YtdjaeoeejcmhdaaGreatDoor
open Go.RowKit Go.RR










end Go.Proofs.YtdjaeoeejcmhdaaGreatDoor
