/- Small lemmas on memory that all proofs of this seat use: blocks known whole, changes inside a footprint. No condition. -/
import Derived.WalkKit
import Derived.WalkSpells
import Derived.WalkLawsBesides
import Derived.Deep.QuietTactic
import Derived.BigQuiet
import Derived.Deep.RegionHeld3
import Derived.Deep.LoopGhost
import Derived.Deep.DeepFit
import Derived.Deep.DeepMust
import Derived.Deep.DeepCutAuto
import Derived.StillTailTactics
import Derived.Deep.Quiet
import Derived.StillTail
import Derived.Deep.DeepAppendRoom
import Derived.Lib.Hide
import Derived.IntWalk
import Derived.Deep.AppendSrc
import Derived.ProofKit
set_option linter.unusedSimpArgs false
namespace Go.RR
open Go.RowKit

/-- Block b is known whole, and not frozen. -/
def Blk (w : World) (b : Nat) (cs : Array Value) (T : TypeId) : Prop := w.heap[b]? = some (.cells cs T (0, 0))

section
variable {w w' : World} {b : Nat} {cs : Array Value} {T : TypeId}

theorem Blk.cell (h : Blk w b cs T) (i : Nat) : w.cell? ⟨b, i, none⟩ = cs[i]? := cell_of_row w b i cs T (0, 0) h
theorem Blk.cell' (h : Blk w b cs T) {i : Nat} {v : Value} (hv : cs[i]? = some v) : w.cell? ⟨b, i, none⟩ = some v := (h.cell i).trans hv
theorem Blk.frozen (h : Blk w b cs T) (i : Nat) : w.frozen? ⟨b, i, none⟩ = false := frozen_of_row w b i cs T h
theorem Blk.lt (h : Blk w b cs T) : b < w.heap.size := (Array.getElem?_eq_some_iff.1 h).1
theorem Blk.set (h : Blk w b cs T) (i : Nat) (v : Value) : Blk (w.setCell ⟨b, i, none⟩ v) b (cs.setIfInBounds i v) T := heap_setCell_same w b i cs T v h
theorem Blk.set_ne (h : Blk w b cs T) {a : Addr} (ne : b ≠ a.block) (v : Value) : Blk (w.setCell a v) b cs T := (heap_setCell_other w a b v ne).trans h
theorem Blk.alloc (h : Blk w b cs T) (o : Obj) : Blk (w.alloc o) b cs T := (Below.heap_alloc w o b h.lt).trans h
theorem Blk.new (w : World) (cs : Array Value) (T : TypeId) : Blk (w.alloc (.cells cs T)) w.heap.size cs T := heap_alloc_new w _
theorem Blk.drewN (h : Blk w b cs T) (n : Nat) : Blk (w.drewN n) b cs T := h
theorem Blk.drew (h : Blk w b cs T) : Blk w.drew b cs T := h
theorem Blk.inj {cs' : Array Value} {T' : TypeId} (h : Blk w b cs T) (h' : Blk w b cs' T') : cs = cs' ∧ T = T' := by
  have := Option.some.inj (h.symm.trans h'); cases this; exact ⟨rfl, rfl⟩
end

/-- w' is w, but for the blocks in S, new blocks and draws. -/
structure Chg (S : Nat → Prop) (w w' : World) : Prop where
  os : w'.os = w.os
  tape : w'.tape = w.tape
  output : w'.output = w.output
  size : w.heap.size ≤ w'.heap.size
  block : ∀ k, k < w.heap.size → ¬ S k → w'.heap[k]? = w.heap[k]?

/-- Nothing that was there has changed. -/
def NoB : Nat → Prop := fun _ => False

section
variable {S S' : Nat → Prop} {w w' w'' : World}

theorem Chg.refl (S : Nat → Prop) (w : World) : Chg S w w := ⟨rfl, rfl, rfl, Nat.le_refl _, fun _ _ _ => rfl⟩
theorem Chg.trans (h : Chg S w w') (k : Chg S' w' w'') (hs : ∀ b, b < w.heap.size → S' b → S b) : Chg S w w'' :=
  ⟨k.os.trans h.os, k.tape.trans h.tape, k.output.trans h.output, Nat.le_trans h.size k.size,
    fun i hi hn => (k.block i (Nat.lt_of_lt_of_le hi h.size) (fun e => hn (hs i hi e))).trans (h.block i hi hn)⟩
theorem Chg.step (h : Chg S w w') (k : Chg S w' w'') : Chg S w w'' := h.trans k fun _ _ h => h
theorem Chg.then0 (h : Chg S w w') (k : Chg NoB w' w'') : Chg S w w'' := h.trans k fun _ _ h => h.elim
theorem Chg.mono (h : Chg S w w') (hs : ∀ b, b < w.heap.size → S b → S' b) : Chg S' w w' :=
  ⟨h.os, h.tape, h.output, h.size, fun i hi hn => h.block i hi fun e => hn (hs i hi e)⟩
theorem Chg.drewN (h : Chg S w w') (n : Nat) : Chg S w (w'.drewN n) := ⟨h.os, h.tape, h.output, h.size, h.block⟩
theorem Chg.drew (h : Chg S w w') : Chg S w w'.drew := ⟨h.os, h.tape, h.output, h.size, h.block⟩
theorem Chg.alloc (h : Chg S w w') (o : Obj) : Chg S w (w'.alloc o) :=
  h.then0 ⟨rfl, rfl, rfl, by simp, fun k hk _ => Below.heap_alloc w' o k hk⟩
theorem Chg.setCell (h : Chg S w w') {a : Addr} (ha : S a.block ∨ w.heap.size ≤ a.block) (v : Value) : Chg S w (w'.setCell a v) :=
  ⟨h.os, h.tape, h.output, by rw [World.size_setCell]; exact h.size, fun i hi hn => (heap_setCell_other w' a i v (fun e => by
    subst e; rcases ha with ha | ha
    · exact hn ha
    · omega)).trans (h.block i hi hn)⟩
theorem Chg.grown {row : Option Nat} (h : Chg S w w') (g : w'.grownBy w'' row) (hr : ∀ k, row = some k → S k ∨ w.heap.size ≤ k) : Chg S w w'' :=
  ⟨g.os.trans h.os, g.tape.trans h.tape, g.output.trans h.output, Nat.le_trans h.size g.size,
    fun i hi hn => (g.block i (Nat.lt_of_lt_of_le hi h.size) (fun e => by
      rcases hr i e.symm with a | a
      · exact hn a
      · omega)).trans (h.block i hi hn)⟩
theorem Chg.blk {b : Nat} {cs : Array Value} {T : TypeId} (h : Chg S w w') (hb : Blk w b cs T) (hn : ¬ S b) : Blk w' b cs T :=
  (h.block b hb.lt hn).trans hb
theorem Chg.blk0 {b : Nat} {cs : Array Value} {T : TypeId} (h : Chg NoB w w') (hb : Blk w b cs T) : Blk w' b cs T := h.blk hb id
theorem Chg.cell (h : Chg S w w') {a : Addr} {v : Value} (hc : w.cell? a = some v) (hn : ¬ S a.block) : w'.cell? a = some v :=
  (World.cell?_of_block (h.block a.block (World.block_lt_of_cell? w a hc) hn)).trans hc
theorem Chg.owns {base : Nat} {e : TypeId} {size : Nat} {v : Value} {n : Nat} {xs : List Value} (h : Chg S w w') (ho : w.ownsRow base e size v n xs) (hn : ∀ k, v.ownBlock = some k → ¬ S k := by exact fun _ _ => id) : w'.ownsRow base e size v n xs := by
  refine ⟨ho.1, ?_⟩
  rcases ho.2 with hv | ⟨g, cap, cur, rfl, hb, hgg, rest⟩
  · exact .inl hv
  · refine .inr ⟨g, cap, cur, rfl, hb, ?_, rest⟩
    rw [h.block g (Array.getElem?_eq_some_iff.1 hgg).1 (hn g (by simp [Value.ownBlock]))]
    exact hgg
theorem Chg.below (h : Chg S w w') {B : Nat} (hB : B ≤ w.heap.size) (hS : ∀ b, S b → B ≤ b) : Below B w w' :=
  ⟨h.os, h.tape, h.output, h.size, fun k hk => h.block k (by omega) (fun e => by have := hS k e; omega)⟩
theorem Chg.of_ex (h : ∃ n, w' = w.drewN n) : Chg NoB w w' := by obtain ⟨n, rfl⟩ := h; exact (Chg.refl NoB w).drewN n
end

/-! What a call answers, behind a name that the walk does not open. -/
def RetPtr (P : Nat → World → Prop) (e : Ending) (w' : World) : Prop := ∃ b, e = .returned (.pointer (some ⟨b, 0, none⟩)) ∧ P b w'
def RetW (v : Value) (P : World → Prop) (e : Ending) (w' : World) : Prop := e = .returned v ∧ P w'
def RetSl (P : Value → World → Prop) (e : Ending) (w' : World) : Prop := ∃ v, e = .returned v ∧ P v w'
def RetV (P : Value → World → Prop) (e : Ending) (w' : World) : Prop := ∃ v, e = .returned v ∧ P v w'

/-! Footprints by tags: block k belongs to object t k. -/
def Tg (t : Nat → Nat) (i lo : Nat) (w : World) : Nat → Prop := fun k => t k = i ∧ lo ≤ k ∧ k < w.heap.size
/-- All blocks from hi on belong to object i. -/
def tup (t : Nat → Nat) (i hi : Nat) : Nat → Nat := fun k => if k < hi then t k else i
/-- The memory behind a call that may also have made new blocks. -/
def Grow (S : Nat → Prop) (w : World) : Nat → Prop := fun k => S k ∨ w.heap.size ≤ k

theorem Tg.keep {t : Nat → Nat} {i j lo : Nat} {w w' : World} (hs : w.heap.size ≤ w'.heap.size) {k : Nat} (h : Tg t j lo w k) : Tg (tup t i w.heap.size) j lo w' k :=
  ⟨by unfold tup; rw [if_pos h.2.2]; exact h.1, h.2.1, Nat.lt_of_lt_of_le h.2.2 hs⟩
theorem Tg.more {t : Nat → Nat} {j lo : Nat} {w w' : World} (hs : w.heap.size ≤ w'.heap.size) {k : Nat} (h : Tg t j lo w k) : Tg t j lo w' k := ⟨h.1, h.2.1, Nat.lt_of_lt_of_le h.2.2 hs⟩
theorem Tg.grow {t : Nat → Nat} {i lo : Nat} {w w' : World} (hs : w.heap.size ≤ w'.heap.size) (hl : lo ≤ w.heap.size) {k : Nat} (hk : k < w'.heap.size) (h : Grow (Tg t i lo w) w k) : Tg (tup t i w.heap.size) i lo w' k := by
  rcases h with h | h
  · exact h.keep hs
  · exact ⟨by unfold tup; rw [if_neg (by omega)], by omega, hk⟩
theorem Tg.fresh {t : Nat → Nat} {i lo : Nat} {w w' : World} (hl : lo ≤ w.heap.size) {k : Nat} (hk : k < w'.heap.size) (h : w.heap.size ≤ k) : Tg (tup t i w.heap.size) i lo w' k :=
  ⟨by unfold tup; rw [if_neg (by omega)], by omega, hk⟩
theorem Tg.apart {t : Nat → Nat} {i j lo : Nat} {w : World} (hne : i ≠ j) {k : Nat} (h : Tg t i lo w k) : ¬ Tg t j lo w k := fun h' => hne (h.1.symm.trans h'.1)
theorem Tg.old {t : Nat → Nat} {i lo : Nat} {w : World} {k : Nat} (h : Tg t i lo w k) (hk : k < lo) : False := by have := h.2.1; omega

/-! Slices: what they read as; what is owned; append. -/

/-- A slice value of n elements, size cells each, that reads as the cells us; its memory lies in S. -/
def Sl (w : World) (S : Nat → Prop) (size : Nat) (v : Value) (n : Nat) (us : List Value) : Prop :=
  us.length = n * size ∧ ∃ p cap, v = .slice p n cap ∧ n ≤ cap ∧ (0 < n → ∃ g off, p = some ⟨g, off, none⟩ ∧ S g ∧ g < w.heap.size ∧ ∀ j u, us[j]? = some u → w.cell? ⟨g, off + j, none⟩ = some u)

/-- The same, and the block is known to be there up to the capacity, not frozen: it may be written and appended to. -/
def Own (w : World) (S : Nat → Prop) (E : TypeId) (size : Nat) (v : Value) (n : Nat) (us : List Value) : Prop :=
  us.length = n * size ∧ ((v = .slice none 0 0 ∧ n = 0) ∨
    ∃ g off cap cur, v = .slice (some ⟨g, off, none⟩) n cap ∧ S g ∧ Blk w g cur E ∧ n ≤ cap ∧ cap ≤ maxLen ∧ off + cap * size ≤ cur.size ∧ ∀ j u, us[j]? = some u → cur[off + j]? = some u)

section
variable {P : Program} {w w' : World} {S S' : Nat → Prop} {E : TypeId} {size : Nat} {v : Value} {n : Nat} {us : List Value}

theorem Sl.nil (w : World) (S : Nat → Prop) (size : Nat) : Sl w S size (.slice none 0 0) 0 [] := ⟨by simp, none, 0, rfl, Nat.le_refl _, fun h => absurd h (by omega)⟩
theorem Sl.empty (w : World) (S : Nat → Prop) (size : Nat) (p : Option Addr) (cap : Nat) : Sl w S size (.slice p 0 cap) 0 [] := ⟨by simp, p, cap, rfl, Nat.zero_le _, fun h => absurd h (by omega)⟩
theorem Sl.of {g off cap : Nat} (hl : us.length = n * size) (hn : n ≤ cap) (hS : S g) (hg : g < w.heap.size) (hc : ∀ j u, us[j]? = some u → w.cell? ⟨g, off + j, none⟩ = some u) : Sl w S size (.slice (some ⟨g, off, none⟩) n cap) n us :=
  ⟨hl, _, cap, rfl, hn, fun _ => ⟨g, off, rfl, hS, hg, hc⟩⟩
theorem Own.nil (w : World) (S : Nat → Prop) (E : TypeId) (size : Nat) : Own w S E size (.slice none 0 0) 0 [] := ⟨by simp, .inl ⟨rfl, rfl⟩⟩
theorem Own.sl (h : Own w S E size v n us) : Sl w S size v n us := by
  refine ⟨h.1, ?_⟩
  rcases h.2 with h | ⟨g, off, cap, cur, hv, hg, hb, hn, _, _, hc⟩
  · obtain ⟨rfl, rfl⟩ := h
    exact ⟨none, 0, rfl, Nat.le_refl _, fun h => absurd h (by omega)⟩
  · exact ⟨_, cap, hv, hn, fun _ => ⟨g, off, rfl, hg, hb.lt, fun j u hu => hb.cell' (hc j u hu)⟩⟩
theorem Sl.chg (h : Sl w S size v n us) (c : Chg S' w w') (hs : ∀ k, S k → ¬ S' k) : Sl w' S size v n us := by
  obtain ⟨h1, p, cap, hv, hn, h2⟩ := h
  refine ⟨h1, p, cap, hv, hn, fun h0 => ?_⟩
  obtain ⟨g, off, hp, hg, hl, hc⟩ := h2 h0
  exact ⟨g, off, hp, hg, Nat.lt_of_lt_of_le hl c.size, fun j u hu => c.cell (hc j u hu) (hs g hg)⟩
theorem Sl.chg0 (h : Sl w S size v n us) (c : Chg NoB w w') : Sl w' S size v n us := h.chg c fun _ _ => id
theorem Sl.monoIn (h : Sl w S size v n us) (hs : ∀ k, k < w.heap.size → S k → S' k) : Sl w S' size v n us := by
  obtain ⟨h1, p, cap, hv, hn, h2⟩ := h
  refine ⟨h1, p, cap, hv, hn, fun h0 => ?_⟩
  obtain ⟨g, off, hp, hg, hl, hc⟩ := h2 h0
  exact ⟨g, off, hp, hs g hl hg, hl, hc⟩
theorem Sl.mono (h : Sl w S size v n us) (hs : ∀ k, S k → S' k) : Sl w S' size v n us := h.monoIn fun k _ => hs k
theorem Own.chg (h : Own w S E size v n us) (c : Chg S' w w') (hs : ∀ k, S k → ¬ S' k) : Own w' S E size v n us := by
  refine ⟨h.1, ?_⟩
  rcases h.2 with h | ⟨g, off, cap, cur, hv, hg, hb, r⟩
  · exact .inl h
  · exact .inr ⟨g, off, cap, cur, hv, hg, c.blk hb (hs g hg), r⟩
theorem Own.chg0 (h : Own w S E size v n us) (c : Chg NoB w w') : Own w' S E size v n us := h.chg c fun _ _ => id
theorem Own.mono (h : Own w S E size v n us) (hs : ∀ k, S k → S' k) : Own w S' E size v n us := by
  refine ⟨h.1, ?_⟩
  rcases h.2 with h | ⟨g, off, cap, cur, hv, hg, r⟩
  · exact .inl h
  · exact .inr ⟨g, off, cap, cur, hv, hs g hg, r⟩
theorem Own.monoIn (h : Own w S E size v n us) (hs : ∀ k, k < w.heap.size → S k → S' k) : Own w S' E size v n us := by
  refine ⟨h.1, ?_⟩
  rcases h.2 with h | ⟨g, off, cap, cur, hv, hg, hb, r⟩
  · exact .inl h
  · exact .inr ⟨g, off, cap, cur, hv, hs g hb.lt hg, hb, r⟩
theorem Own.of_row {base : Nat} (h : w.ownsRow base E size v n us) : Own w (fun k => base ≤ k) E size v n us := by
  refine ⟨h.1, ?_⟩
  rcases h.2 with h | ⟨g, cap, cur, hv, hb, hg, hn, hm, hs, ht⟩
  · exact .inl h
  · refine .inr ⟨g, 0, cap, cur, hv, hb, hg, hn, hm, by omega, fun j u hu => ?_⟩
    rw [← ht, List.getElem?_take] at hu
    rw [Nat.zero_add]
    split at hu
    · simpa using hu
    · cases hu
theorem Own.ownBlock (h : Own w S E size v n us) : ∀ k, v.ownBlock = some k → S k ∧ k < w.heap.size := by
  intro k hk
  rcases h.2 with ⟨rfl, _⟩ | ⟨g, off, cap, cur, rfl, hg, hb, _⟩
  · simp [Value.ownBlock] at hk
  · simp only [Value.ownBlock, Option.some.injEq] at hk
    subst hk
    exact ⟨hg, hb.lt⟩
theorem Sl.shape (h : Sl w S size v n us) : ∃ p cap, v = .slice p n cap ∧ n ≤ cap ∧ (0 < n → ∃ g off, p = some ⟨g, off, none⟩ ∧ S g ∧ g < w.heap.size ∧ ∀ j u, us[j]? = some u → w.cell? ⟨g, off + j, none⟩ = some u) := h.2
/-- The rest of an owned slice behind k elements, as the walk writes it. -/
theorem Own.drop {g off cap k : Nat} (h : Own w S E size (.slice (some ⟨g, off, none⟩) n cap) n us) (hk : k ≤ n) : Own w S E size (.slice (some ⟨g, off + k * size, none⟩) (n - k) (cap - k)) (n - k) (us.drop (k * size)) := by
  rcases h with ⟨hl, hv | ⟨g', off', cap', cur, hv, hg, hb, hn, hm, hf, hc⟩⟩
  · cases hv.1
  · cases hv
    refine ⟨by rw [List.length_drop, hl, Nat.sub_mul], .inr ⟨g, off + k * size, cap - k, cur, rfl, hg, hb, by omega, by omega, ?_, fun j u hu => ?_⟩⟩
    · have : k * size + (cap - k) * size = cap * size := by rw [← Nat.add_mul]; congr 1; omega
      omega
    · rw [List.getElem?_drop] at hu
      rw [show off + k * size + j = off + (k * size + j) by omega]
      exact hc _ u hu

theorem setCells_blk {g : Nat} : ∀ (vs : List Value) (o : Nat) (w : World) (cur : Array Value), Blk w g cur E → o + vs.length ≤ cur.size →
    ∃ cur', Blk (w.setCells g o vs) g cur' E ∧ cur'.size = cur.size ∧ (∀ j u, vs[j]? = some u → cur'[o + j]? = some u) ∧ (∀ i, i < o ∨ o + vs.length ≤ i → cur'[i]? = cur[i]?) ∧
      (∀ k, k ≠ g → (w.setCells g o vs).heap[k]? = w.heap[k]?) ∧ (w.setCells g o vs).heap.size = w.heap.size ∧ (w.setCells g o vs).os = w.os ∧ (w.setCells g o vs).tape = w.tape ∧ (w.setCells g o vs).output = w.output
  | [], o, w, cur, hb, _ => ⟨cur, hb, rfl, fun j u h => by simp at h, fun _ _ => rfl, fun _ _ => rfl, rfl, rfl, rfl, rfl⟩
  | x :: vs, o, w, cur, hb, hl => by
    simp only [List.length_cons] at hl
    obtain ⟨c', h1, h2, h3, h4, h5, h6, h7, h8, h9⟩ := setCells_blk vs (o + 1) (w.setCell ⟨g, o, none⟩ x) (cur.setIfInBounds o x) (hb.set o x) (by simp; omega)
    refine ⟨c', h1, by rw [h2]; simp, ?_, ?_, fun k hk => (h5 k hk).trans (heap_setCell_other w ⟨g, o, none⟩ k x hk), h6.trans (by simp), h7, h8, h9⟩
    · intro j u hu
      cases j with
      | zero =>
        simp only [List.getElem?_cons_zero, Option.some.injEq] at hu
        subst hu
        rw [Nat.add_zero, h4 o (.inl (by omega)), Array.getElem?_setIfInBounds_self_of_lt (by omega)]
      | succ j =>
        rw [List.getElem?_cons_succ] at hu
        rw [show o + (j + 1) = o + 1 + j by omega]
        exact h3 j u hu
    · intro i hi
      simp only [List.length_cons] at hi
      rw [h4 i (by omega), Array.getElem?_setIfInBounds_ne (by omega)]

/-- append: an owned slice (nil, from the head of its block or not), and whatever may be read behind it. -/
theorem run_app (t ty : TypeId) (i : TypeInfo) (z : Value) (bytes : Nat) (ht : P.underlying t = some (.slice E)) (hi : P.info? E = some i) (hz : i.zero = some z)
    (hsize : i.size = size) (hby : i.bytes = bytes) (hzs : z.cells.size = size) (hown : Own w S E size v n us) (x : Value) (m : Nat) (news : List Value) (hx : Sl w S' size x m news) (h1 : ∀ u ∈ news, u.oneCell' = true)
    (h63 : n + m ≤ maxLen) (hbytes : (n + m) * bytes ≤ 140737488355328) :
    ∃ v' w', (Builtin.append_ #[t, t] ty #[v, x]).run P w = .ok v' w' ∧ Own w' (fun k => v.ownBlock = some k ∨ k = w.heap.size) E size v' (n + m) (us ++ news) ∧ w.grownBy w' v.ownBlock ∧ (0 < m → v' ≠ .slice none 0 0) := by
  subst hsize hby
  have hlen : (us ++ news).length = (n + m) * i.size := by rw [List.length_append, hown.1, hx.1, Nat.add_mul]
  have h63' : ((n + m : Nat) : Int) ≤ 9223372036854775807 := by simp only [maxLen] at h63; omega
  have hsrc : Src P i.size t x m news w := by
    obtain ⟨hx1, p, cap, rfl, _, hx2⟩ := hx
    by_cases hm0 : m = 0
    · subst hm0
      obtain rfl : news = [] := List.eq_nil_of_length_eq_zero (by simpa using hx1)
      cases p with
      | none => exact Src.ofNil w ht cap
      | some a => exact Src.ofSlice w ht a 0 cap [] (by simp) (fun j u hu => by simp at hu) h1
    · obtain ⟨g, off, rfl, _, _, hc⟩ := hx2 (by omega)
      exact Src.ofSlice w ht ⟨g, off, none⟩ m cap news hx1 (fun j u hu => by rw [Addr.add_lit]; exact hc j u hu) h1
  have grow : ∀ (base : Option Addr) (cap : Nat), (Builtin.firstCells i.size n (.slice base n cap)).run P w.drew = .ok us.toArray w.drew → cap < n + m →
      ∃ v' w', (Builtin.append_ #[t, t] ty #[.slice base n cap, x]).run P w = .ok v' w' ∧ Own w' (fun k => (Value.slice base n cap).ownBlock = some k ∨ k = w.heap.size) E i.size v' (n + m) (us ++ news) ∧ w.grownBy w' (Value.slice base n cap).ownBlock ∧ (0 < m → v' ≠ .slice none 0 0) := by
    intro base cap hold hg
    have hr := run_append_grow_src (P := P) w t t ty E i z ht hi hz base n cap us hold x m news hsrc hg h63' (growslice_fits hg hbytes)
    have hge := grownCap_ge w (n + m) cap E
    refine ⟨_, _, hr, ⟨hlen, .inr ⟨w.heap.size, 0, _, _, rfl, .inr rfl, heap_alloc_new w.drew _, hge, grownCap_le_maxLen w (n + m) cap E h63, ?_, fun j u hu => ?_⟩⟩, ⟨rfl, rfl, rfl, by simp, fun k hk _ => Below.heap_alloc w.drew _ k hk⟩, by simp⟩
    · simp only [Array.size_append, List.size_toArray, hlen, size_zeroCells, hzs, ← Nat.add_mul, Nat.zero_add]
      exact Nat.le_of_eq (congrArg (· * i.size) (by omega))
    · rw [Nat.zero_add, Array.getElem?_append_left (by have := (List.getElem?_eq_some_iff.1 hu).1; simpa using this)]
      simpa using hu
  rcases hown.2 with ⟨rfl, rfl⟩ | ⟨g, off, cap, cur, rfl, hSg, hb, hn, hm, hf, hc⟩
  · obtain rfl : us = [] := List.eq_nil_of_length_eq_zero (by simpa using hown.1)
    by_cases h0 : m = 0
    · subst h0
      obtain rfl : news = [] := List.eq_nil_of_length_eq_zero (by simpa using hx.1)
      refine ⟨.slice none 0 0, w, ?_, Own.nil _ _ _ _, ⟨rfl, rfl, rfl, Nat.le_refl _, fun _ _ _ => rfl⟩, by simp⟩
      obtain ⟨_, p, cap, rfl, _⟩ := hx
      cases p <;> simp [Builtin.append_, run_underlying ht, sizeOf, typeInfo, hi, Builtin.lenOf, Builtin.firstCells, loadCells, loadCellsFrom]
    · exact grow none 0 (by simp [Builtin.firstCells]) (by omega)
  · by_cases hroom : n + m ≤ cap
    · have hfit : off + n * i.size + news.length ≤ cur.size := by
        have := Nat.mul_le_mul_right i.size hroom
        rw [Nat.add_mul] at this
        rw [hx.1]; omega
      have hr := run_append_room_src (P := P) w t t ty E i ht hi g off n cap x m news hsrc hroom
        (fun j hj => by rw [hb.cell]; rw [Array.getElem?_eq_getElem (by omega)]; rfl) (fun j hj => hb.frozen _)
      obtain ⟨c', k1, k2, k3, k4, k5, k6, k7, k8, k9⟩ := setCells_blk news (off + n * i.size) w cur hb hfit
      refine ⟨_, _, hr, ⟨hlen, .inr ⟨g, off, cap, c', rfl, .inl rfl, k1, hroom, hm, by omega, fun j u hu => ?_⟩⟩, ⟨k7, k8, k9, by omega, fun k _ hk => k5 k (fun e => hk (by simp [Value.ownBlock, e]))⟩, by simp⟩
      rw [List.getElem?_append] at hu
      split at hu
      · rename_i hj
        rw [k4 _ (.inl (by rw [← hown.1]; omega))]
        exact hc j u hu
      · have := k3 _ u hu
        rwa [show off + n * i.size + (j - us.length) = off + j by rw [← hown.1]; omega] at this
    · refine grow (some ⟨g, off, none⟩) cap (run_firstCells_some w.drew i.size n ⟨g, off, none⟩ n cap us hown.1 (fun j u hu => ?_)) (by omega)
      rw [Addr.add_lit]; exact hb.cell' (hc j u hu)

theorem wpList_app {ops : Array Oper} {rest : List Oper} {o : Oper} {a : Act} {Q : Exit → Act → World → Prop} (hgd : o.guard = none) (s x : Operand) (t : TypeId)
    (ho : o.op = .call { callee := .builtin .append, args := #[s, x], argTypes := #[t, t] })
    (i : TypeInfo) (z : Value) (bytes : Nat) (ht : P.underlying t = some (.slice E)) (hi : P.info? E = some i) (hz : i.zero = some z)
    (hsize : i.size = size) (hby : i.bytes = bytes) (hzs : z.cells.size = size) (hs : a.eval s = v) (hown : Own w S E size v n us) (xv : Value) (m : Nat) (news : List Value) (hxv : a.eval x = xv) (hx : Sl w S' size xv m news) (h1 : ∀ u ∈ news, u.oneCell' = true)
    (h63 : n + m ≤ maxLen) (hbytes : (n + m) * bytes ≤ 140737488355328)
    (h : ∀ v' w', Own w' (fun k => v.ownBlock = some k ∨ k = w.heap.size) E size v' (n + m) (us ++ news) → w.grownBy w' v.ownBlock → (0 < m → v' ≠ .slice none 0 0) → wpList P ops Q rest (a.put o.dst v') w') : wpList P ops Q (o :: rest) a w := by
  refine wpList_plain hgd fun K hK => ?_
  obtain ⟨v', w', hr, h2, h3, h4⟩ := run_app (P := P) t o.type i z bytes ht hi hz hsize hby hzs hown xv m news hx h1 h63 hbytes
  unfold Oper.wp execOp
  simp only [ho, resolve, invoke, builtin, Sem.run_bind, Sem.run_pure, Result.andThen_ok, List.map_toArray, List.map_cons, List.map_nil, hs, hxv, hr]
  exact hK _ _ (h v' w' h2 h3 h4)

/-- The change of an append, and where the new slice lies. -/
theorem grown_chg {v : Value} (hg : w.grownBy w' v.ownBlock) (hv : ∀ k, v.ownBlock = some k → S k) : Chg S w w' :=
  (Chg.refl S w).grown hg fun k hk => .inl (hv k hk)

/-- A slice over a fresh block that a literal has just made. -/
theorem Sl.fresh (w : World) (cs : List Value) (T : TypeId) (n : Nat) (hl : cs.length = n * size) : Sl (w.alloc (.cells cs.toArray T)) (fun k => k = w.heap.size) size (.slice (some ⟨w.heap.size, 0, none⟩) n n) n cs :=
  Sl.of hl (Nat.le_refl _) rfl (by simp) (fun j u hu => by
    rw [Nat.zero_add]; exact (Blk.new w cs.toArray T).cell' (by simpa using hu))
theorem Own.fresh (w : World) (cs : List Value) (T : TypeId) (n : Nat) (hl : cs.length = n * size) (hn : n ≤ maxLen) : Own (w.alloc (.cells cs.toArray T)) (fun k => k = w.heap.size) T size (.slice (some ⟨w.heap.size, 0, none⟩) n n) n cs :=
  ⟨hl, .inr ⟨w.heap.size, 0, n, cs.toArray, rfl, rfl, Blk.new w cs.toArray T, Nat.le_refl _, hn, by simp [hl], fun j u hu => by
    rw [Nat.zero_add]; simpa using hu⟩⟩
end

theorem cell_spot (w : World) (b o s : Nat) : w.cell? ⟨b, o, some s⟩ = none := by
  unfold World.cell?; dsimp only; split <;> simp

theorem quiet0 {P : Program} {f : FuncId} {args : Array Value} {w : World} {n : Nat} {v : Value}
    (h : Calls P f args (w.drewN n) fun e w' => e = .returned v ∧ w.drewN n = w') : Calls P f args (w.drewN n) fun e w'' => e = .returned v ∧ ∃ m, w'' = w.drewN m :=
  h.mono fun _ _ ⟨he, hm⟩ => ⟨he, n, hm.symm⟩

/-! A region that draws its order: first some bare moves (A), then a head of operations that only read or call quietly, then a tail (from number n on) in one forced order. -/
section
variable {P : Program} {ops : Array Oper} {md : Region.Mode} {C : World → Prop}

def sinkA (md : Region.Mode) (ops : Array Oper) (n : Nat) (A : List Nat) : Bool :=
  (List.range n).all fun i => A.contains i || (List.range (n + 1)).any fun j => decide (i < j) && Region.waitsFor md ops j i

theorem tailWaits {n : Nat} {A : List Nat} {listed : Array Bool} (hs : sinkA md ops n A = true) (hc : Region.chainB md ops n = true) (hn : n < ops.size) (inv : HeadInv md ops n listed)
    (hA : ∀ i ∈ A, listed.getD i true = true) : ∀ (d i : Nat), n - i = d → i < n → listed.getD i true = false → ∀ t, n ≤ t → t ∉ Region.ready md ops listed := by
  intro d
  induction d using Nat.strongRecOn with
  | _ d ih =>
    intro i hd hi hun t ht hr
    obtain ⟨_, ot, hot, hall⟩ := mem_ready.1 hr
    have htlt : t < ops.size := (Array.getElem?_eq_some_iff.1 hot).1
    by_cases htn : t = n
    · subst htn
      have h1 := List.all_eq_true.1 hs i (List.mem_range.2 hi)
      rcases Bool.or_eq_true_iff.1 h1 with h1 | h1
      · rw [hA i (by simpa using h1)] at hun; cases hun
      obtain ⟨j, hj, hj2⟩ := List.any_eq_true.1 h1
      simp only [Bool.and_eq_true, decide_eq_true_eq] at hj2
      obtain ⟨oj, hoj, e, he, hb, hon⟩ := Region.waitsFor_spec hj2.2
      have hjle : j ≤ t := by have := List.mem_range.1 hj; omega
      by_cases hjt : j = t
      · subst hjt
        have : oj = ot := Option.some.inj (hoj.symm.trans hot)
        subst this
        have h2 := hall e he hb
        rw [hon, getD_both hun] at h2
        cases h2
      · cases hl : listed.getD j false with
        | true =>
          have h2 := inv.closed j oj hoj hl e he hb
          rw [hon, getD_both hun] at h2
          cases h2
        | false =>
          have hjs : j < listed.size := by rw [inv.size]; omega
          exact ih (t - j) (by omega) j rfl (by omega) (getD_in hjs hl) t (Nat.le_refl _) hr
    · have h1 := List.all_eq_true.1 hc t (List.mem_range.2 htlt)
      simp only [Bool.or_eq_true, decide_eq_true_eq] at h1
      rcases h1 with h1 | h1
      · omega
      · obtain ⟨o', ho', e, he, hb, hon⟩ := Region.waitsFor_spec h1
        have : o' = ot := Option.some.inj (ho'.symm.trans hot)
        subst this
        have h2 := hall e he hb
        rw [hon, getD_both (inv.tail (t - 1) (by omega) (by omega))] at h2
        cases h2

def headQ (P : Program) (md : Region.Mode) (ops : Array Oper) (C : World → Prop) (n : Nat) (L : Array Bool → Act → Prop) : Nat → Array Bool → Act → Prop
  | 0, listed, a => L listed a
  | f + 1, listed, a => Region.ready md ops listed ≠ [] ∧ ∀ i ∈ Region.ready md ops listed, i < n ∧ qOp P ops C i (headQ P md ops C n L f (listed.setIfInBounds i true)) a

theorem headQ_any {n g : Nat} {L : Array Bool → Act → Prop} {Q' : Exit → Act → World → Prop} (hL : ∀ listed a w, C w → L listed a → wpAny P md ops Q' g listed a w) :
    ∀ (f : Nat) (listed : Array Bool) (a : Act) (w : World), C w → headQ P md ops C n L f listed a → wpAny P md ops Q' (f + g) listed a w
  | 0, listed, a, w, hw, h => by rw [Nat.zero_add]; exact hL _ _ _ hw h
  | f + 1, listed, a, w, hw, h => by
    rw [show f + 1 + g = (f + g) + 1 by omega]
    exact ⟨fun h0 => absurd h0 h.1, fun i hi => wpOp_of_qOp hw (fun a' w' hw' h' => headQ_any hL f _ a' w' hw' h') (h.2 i hi).2⟩

theorem headQ_first {n i : Nat} {A : List Nat} {oi : Oper} {v : Value} {L : Array Bool → Act → Prop} (hi : ops[i]? = some oi) (hsel : ∀ (j : Nat) (o : Oper) cs b, ops[j]? = some o → o.op ≠ .select cs b)
    (hs : sinkA md ops n A = true) (hc : Region.chainB md ops n = true) (hn : n < ops.size) (hin : i < n)
    (hdone : ∀ listed a, L listed a → ∀ j ∈ Region.ready md ops listed, n ≤ j) (f : Nat) :
    ∀ (listed : Array Bool) (a : Act), HeadInv md ops n listed → (∀ i ∈ A, listed.getD i true = true) →
      (∀ j oj, ops[j]? = some oj → j ≠ i → listed.getD j true = false → (∀ e ∈ oj.after, Region.binds md e = true → e.on ≠ i) → oi.apart ops oj = true) →
      i ∈ Region.ready md ops listed → YieldsIn P ops C oi v a →
      headQ P md ops C n L f (listed.setIfInBounds i true) (a.put oi.dst v) → headQ P md ops C n L (f + 1) listed a := by
  induction f with
  | zero =>
    intro listed a inv hA _ hr hy H
    have hun := (mem_ready.1 hr).1
    refine ⟨fun h => (by rw [h] at hr; cases hr), fun j hj => ?_⟩
    have hjn : j < n := Nat.lt_of_not_le fun h => tailWaits hs hc hn inv hA _ i rfl hin hun j h hj
    refine ⟨hjn, ?_⟩
    by_cases hji : j = i
    · subst hji; exact hy.qOp hi H
    · have := hdone _ _ H j (ready_mono hj hji)
      omega
  | succ f ih =>
    intro listed a inv hA hfree hr hy H
    have hun := (mem_ready.1 hr).1
    refine ⟨fun h => (by rw [h] at hr; cases hr), fun j hj => ?_⟩
    have hjn : j < n := Nat.lt_of_not_le fun h => tailWaits hs hc hn inv hA _ i rfl hin hun j h hj
    refine ⟨hjn, ?_⟩
    by_cases hji : j = i
    · subst hji; exact hy.qOp hi H
    · have h1 := (H.2 j (ready_mono hj hji)).2
      obtain ⟨hjun, oj, hoj, hall⟩ := mem_ready.1 hj
      have hnot : ∀ e ∈ oj.after, Region.binds md e = true → e.on ≠ i := fun e he hb heq => by
        have h1 := hall e he hb
        rw [heq, getD_both hun] at h1
        cases h1
      have h2 := qOp_put hoj (hfree j oj hoj hji hjun hnot) (fun cs b => hsel i oi cs b hi) (fun cs b => hsel j oj cs b hoj) hy h1
      have hfree' : ∀ k ok, ops[k]? = some ok → k ≠ i → (listed.setIfInBounds j true).getD k true = false →
          (∀ e ∈ ok.after, Region.binds md e = true → e.on ≠ i) → oi.apart ops ok = true := fun k ok hk hki hun' hno => by
        refine hfree k ok hk hki ?_ hno
        by_cases hjk : j = k
        · subst hjk; exact hjun
        · rw [getD_set_ne true hjk] at hun'; exact hun'
      have hA' : ∀ i ∈ A, (listed.setIfInBounds j true).getD i true = true := fun k hk => by
        by_cases hjk : j = k
        · subst hjk; exact absurd (hA j hk) (by rw [hjun]; simp)
        · rw [getD_set_ne true hjk]; exact hA k hk
      refine qOp_mono (fun a' h3 => ih (listed.setIfInBounds j true) a' (inv.set hj hjn) hA' hfree' (ready_mono hr (Ne.symm hji)) h3.1 ?_) h2
      rw [Array.setIfInBounds_comm _ _ hji]
      exact h3.2

/-- The order of the head, operation by operation: may come up, and is free; behind it the tail in its one order. -/
def headB (md : Region.Mode) (ops : Array Oper) (g n : Nat) : List Nat → Array Bool → Bool
  | [], listed => Region.seqB md ops g n listed
  | k :: l, listed => decide (k < n) && (Region.ready md ops listed).contains k && Region.free md ops listed k && headB md ops g n l (listed.setIfInBounds k true)

def pickOps (ops : Array Oper) : List Nat → List Oper
  | [] => []
  | k :: l => (ops[k]?).getD default :: pickOps ops l
theorem pickOps_nil (ops : Array Oper) : pickOps ops [] = [] := rfl
theorem pickOps_cons (ops : Array Oper) (k : Nat) (l : List Nat) : pickOps ops (k :: l) = (ops[k]?).getD default :: pickOps ops l := rfl

theorem headQ_lex {n g : Nat} {A : List Nat} {Lq : Act → Prop} (hsel : Region.noSelect ops = true) (hs : sinkA md ops n A = true) (hc : Region.chainB md ops n = true) (hn : n < ops.size) :
    ∀ (l : List Nat) (listed : Array Bool) (a : Act), HeadInv md ops n listed → (∀ i ∈ A, listed.getD i true = true) → headB md ops g n l listed = true → wpQuiet P ops C Lq (pickOps ops l) a →
    headQ P md ops C n (fun listed' a' => Region.seqB md ops g n listed' = true ∧ Lq a') l.length listed a
  | [], listed, a, _, _, hB, h => ⟨by simpa [headB] using hB, by simpa [pickOps, wpQuiet] using h⟩
  | k :: l, listed, a, inv, hA, hB, h => by
    simp only [headB, Bool.and_eq_true, decide_eq_true_eq] at hB
    obtain ⟨⟨⟨hkn, hr⟩, hf⟩, hB'⟩ := hB
    have hr' : k ∈ Region.ready md ops listed := by simpa using hr
    obtain ⟨hkun, o, h0, _⟩ := mem_ready.1 hr'
    have h' : wpQuiet P ops C Lq (o :: pickOps ops l) a := by simpa [pickOps, h0] using h
    have hst : qOp P ops C k (wpQuiet P ops C Lq (pickOps ops l)) a := by unfold qOp; simp only [h0]; exact h'
    obtain ⟨v, hy, hK⟩ := yieldsIn_of_qOp h0 hst
    have hA' : ∀ i ∈ A, (listed.setIfInBounds k true).getD i true = true := fun j hj => by
      by_cases hjk : k = j
      · subst hjk; exact absurd (hA k hj) (by rw [hkun]; simp)
      · rw [getD_set_ne true hjk]; exact hA j hj
    exact headQ_first h0 (Region.noSelect_spec hsel) hs hc hn hkn (fun listed' a' hL => seqB_ready hL.1) l.length listed a inv hA (Region.free_spec h0 hf) hr' hy
      (headQ_lex hsel hs hc hn l _ _ (inv.set hr' hkn) hA' hB' hK)

def isMove (ops : Array Oper) (i : Nat) : Bool := match ops[i]? with | some ⟨some _, .move _, _, _, _, none⟩ => true | _ => false

/-- The moves that are taken first; what is listed behind them. -/
def movesB (md : Region.Mode) (ops : Array Oper) (n : Nat) : List Nat → Array Bool → Option (Array Bool)
  | [], listed => some listed
  | k :: l, listed => if decide (k < n) && isMove ops k && (Region.ready md ops listed).contains k && Region.free md ops listed k then movesB md ops n l (listed.setIfInBounds k true) else none

def planB (md : Region.Mode) (ops : Array Oper) (n : Nat) (A H : List Nat) : Bool :=
  Region.noSelect ops && decide (n < ops.size) && decide (A.length + H.length = n) && sinkA md ops n A && Region.chainB md ops n &&
    match movesB md ops n A (Array.replicate ops.size false) with
    | some listed => headB md ops (ops.size - n) n H listed
    | none => false

theorem quiet_move {o : Oper} {x : Operand} {a : Act} {K : Act → Prop} {w : World} (hC : C w) (ho : o.op = .move x) (h : o.quiet P a C K) : Yields P ops o (a.eval x) a ∧ K (a.put o.dst (a.eval x)) ∨ o.guard ≠ none := by
  obtain ⟨v, h1, h2⟩ := h
  by_cases hg : o.guard = none
  · have hr : ∀ w, (execOp a.eval o).run P w = .ok (.value (a.eval x)) w := fun w => by simp [execOp, ho]
    have := h1 w hC
    unfold Oper.quietAt at this
    rw [hr] at this
    simp only [Oper.quietUpon] at this
    rw [this.2]
    refine .inl ⟨.inl ⟨by simp [Region.wanted, hg], fun w => by rw [hr, this.2]⟩, h2⟩
  · exact .inr hg

theorem moves_first {n g : Nat} {Q' : Exit → Act → World → Prop} {Lq : Act → Prop} {w : World} (hC : C w) (hsel : Region.noSelect ops = true)
    (hQ : ∀ c a d v w, Q' (.panic c) (a.put (some d) v) w → Q' (.panic c) a w) :
    ∀ (A : List Nat) (listed l2 : Array Bool) (a : Act), HeadInv md ops n listed → movesB md ops n A listed = some l2 → wpQuiet P ops C Lq (pickOps ops A) a →
      (∀ a', HeadInv md ops n l2 → (∀ i, listed.getD i true = true ∨ i ∈ A → l2.getD i true = true) → Lq a' → wpAny P md ops Q' g l2 a' w) → wpAny P md ops Q' (A.length + g) listed a w
  | [], listed, l2, a, inv, hB, h, hL => by
    simp only [movesB, Option.some.injEq] at hB
    subst hB
    rw [List.length_nil, Nat.zero_add]
    exact hL a inv (fun i hi => by simpa using hi) (by simpa [pickOps, wpQuiet] using h)
  | k :: l, listed, l2, a, inv, hB, h, hL => by
    simp only [movesB] at hB
    split at hB
    case isFalse => cases hB
    rename_i hc
    simp only [Bool.and_eq_true, decide_eq_true_eq] at hc
    obtain ⟨⟨⟨hkn, hm⟩, hr⟩, hf⟩ := hc
    have hr' : k ∈ Region.ready md ops listed := by simpa using hr
    obtain ⟨hkun, o, h0, _⟩ := mem_ready.1 hr'
    have h' : wpQuiet P ops C Lq (o :: pickOps ops l) a := by simpa [pickOps, h0] using h
    unfold isMove at hm
    rw [h0] at hm
    obtain ⟨x, d, hx, hg, hd⟩ : ∃ x d, o.op = .move x ∧ o.guard = none ∧ o.dst = some d := by
      revert hm
      split
      · rename_i _ d x t p af he
        intro _
        cases Option.some.inj he
        exact ⟨x, d, rfl, rfl, rfl⟩
      · intro h; cases h
    have hw : Region.wanted o (yielded ops a.tmps) = true := by simp [Region.wanted, hg]
    simp only [wpQuiet, hw, if_true] at h'
    rcases quiet_move (ops := ops) hC hx h' with ⟨hy, hK⟩ | hbad
    · rw [show (k :: l).length + g = (l.length + g) + 1 by simp; omega]
      refine wpAny_take h0 hsel hf hr (fun c a w => by rw [hd]; exact hQ c a d _ w) hy ?_
      refine moves_first hC hsel hQ l _ l2 _ (inv.set hr' hkn) hB hK fun a' i1 i2 i3 => hL a' i1 (fun i hi => i2 i ?_) i3
      rcases hi with hi | hi
      · by_cases hki : k = i
        · subst hki; rw [hkun] at hi; cases hi
        · exact .inl (by rw [getD_set_ne true hki]; exact hi)
      · rcases List.mem_cons.1 hi with rfl | hi
        · refine .inl ?_
          by_cases hsz : i < listed.size
          · simp [hsz]
          · simp [Array.getElem?_eq_none (show listed.size ≤ i by omega)] at hkun ⊢
        · exact .inr hi
    · exact absurd hg hbad

theorem pickOps_append (ops : Array Oper) (l m : List Nat) : pickOps ops (l ++ m) = pickOps ops l ++ pickOps ops m := by
  induction l with
  | nil => rfl
  | cons k l ih => rw [List.cons_append, pickOps_cons, pickOps_cons, ih]; rfl

theorem wpQuiet_append {Q : Act → Prop} : ∀ (l m : List Oper) (a : Act), wpQuiet P ops C Q (l ++ m) a → wpQuiet P ops C (wpQuiet P ops C Q m) l a
  | [], _, _, h => h
  | o :: l, m, a, h => by
    simp only [List.cons_append, wpQuiet] at h ⊢
    split
    · rename_i hw; rw [if_pos hw] at h; exact Oper.quiet_mono (fun a h => wpQuiet_append l m a h) h
    · rename_i hw; rw [if_neg hw] at h; exact wpQuiet_append l m _ h

theorem wp_region_plan {id : Nat} {Q : Exit → Act → World → Prop} {a : Act} {w : World} {l : List Oper} (n : Nat) (A H : List Nat) (hm : P.follows .mixedOrders = true) (hB : planB .any l.toArray n A H = true)
    (hQ : ∀ c a d v w, Q (.panic c) (a.put (some d) v) w → Q (.panic c) a w)
    (h : wpQuiet P l.toArray (fun w' => ∃ n, w' = w.drewN n) (fun a' => ∀ w', (∃ n, w' = w.drewN n) → wpList P l.toArray Q (l.drop n) a' w') (pickOps l.toArray (A ++ H)) a) : (Code.region id l.toArray true).wp P Q a w := by
  simp only [planB, Bool.and_eq_true, decide_eq_true_eq] at hB
  obtain ⟨⟨⟨⟨⟨hsel, hn⟩, hAH⟩, hs⟩, hc⟩, hlex⟩ := hB
  have hn' : n < l.length := by simpa using hn
  have hdl : (l.drop n).length = l.toArray.size - n := by simp
  have inv0 : HeadInv .any l.toArray n (Array.replicate l.toArray.size false) :=
    ⟨by simp, fun j oj _ hl => (by rw [getD_replicate_false] at hl; cases hl), fun t _ ht => getD_in (by simpa using ht) (getD_replicate_false _ _)⟩
  rw [pickOps_append] at h
  cases hmv : movesB .any l.toArray n A (Array.replicate l.toArray.size false) with
  | none => rw [hmv] at hlex; cases hlex
  | some l2 =>
    rw [hmv] at hlex
    refine wp_region_any hm ?_
    have key := moves_first (P := P) (md := .any) (C := fun w' => ∃ n, w' = w.drewN n) (Q' := Q) (g := H.length + (l.toArray.size - n)) (w := { w with drawn := w.drawn + 1 }) ⟨1, rfl⟩ hsel hQ A _ l2 a inv0 hmv (wpQuiet_append _ _ _ h)
      (fun a' inv2 hA2 h2 => by
        have k1 := headQ_lex (P := P) (C := fun w' => ∃ n, w' = w.drewN n) (g := l.toArray.size - n) hsel hs hc hn H l2 a' inv2 (fun i hi => hA2 i (.inr hi)) hlex h2
        exact headQ_any (Q' := Q) (g := l.toArray.size - n) (fun listed a' w' hw' hL => by
          have := wpAny_of_seq (P := P) (md := .any) (ops := l.toArray) (Q' := Q) (l.drop n) n listed a' w' (fun j => by simp) (by rw [hdl]; exact hL.1) (hL.2 w' hw')
          rwa [hdl] at this) _ _ _ { w with drawn := w.drawn + 1 } ⟨1, rfl⟩ k1)
    rwa [show A.length + (H.length + (l.toArray.size - n)) = l.toArray.size by simp; omega] at key
end
/-! A region that draws its order, with loads beside one call (or more) that makes memory: A is taken first (each yields its value in every world that meets S), then B in one forced order (S is shown behind each), then the tail from number n on in its forced order (S is not asked any more). -/
section
variable {P : Program} {ops : Array Oper} {md : Region.Mode} {S : World → Prop} {Q : Exit → Act → World → Prop}

def anyK (P : Program) (md : Region.Mode) (ops : Array Oper) (Q : Exit → Act → World → Prop) (S : World → Prop) (n : Nat) : Nat → Array Bool → Act → World → Prop
  | 0, listed, a, w => Region.ready md ops listed = [] ∧ Q .normal a w
  | f + 1, listed, a, w => (Region.ready md ops listed = [] → Q .normal a w) ∧
    ∀ i ∈ Region.ready md ops listed, wpOp P ops Q i (fun a' w' => (i < n → S w') ∧ anyK P md ops Q S n f (listed.setIfInBounds i true) a' w') a w

theorem anyK_any {n : Nat} : ∀ (f : Nat) (listed : Array Bool) (a : Act) (w : World), anyK P md ops Q S n f listed a w → wpAny P md ops Q f listed a w
  | 0, _, _, _, h => h
  | f + 1, _, _, _, h => ⟨h.1, fun i hi => wpOp_mono (fun a' w' h' => anyK_any f _ a' w' h'.2) (h.2 i hi)⟩

theorem anyK_first {n i : Nat} {oi : Oper} {v : Value} (hi : ops[i]? = some oi) (hsel : ∀ (j : Nat) (o : Oper) cs b, ops[j]? = some o → o.op ≠ .select cs b)
    (hs : Region.sinkB md ops n = true) (hc : Region.chainB md ops n = true) (hn : n < ops.size) (hin : i < n)
    (hQ : ∀ c a w, Q (.panic c) (a.put oi.dst v) w → Q (.panic c) a w) (f : Nat) :
    ∀ (listed : Array Bool) (a : Act) (w : World), HeadInv md ops n listed →
      (∀ j oj, ops[j]? = some oj → j ≠ i → listed.getD j true = false → (∀ e ∈ oj.after, Region.binds md e = true → e.on ≠ i) → oi.apart ops oj = true) →
      i ∈ Region.ready md ops listed → YieldsIf P ops S oi v a → S w →
      anyK P md ops Q S n f (listed.setIfInBounds i true) (a.put oi.dst v) w → anyK P md ops Q S n (f + 1) listed a w := by
  induction f with
  | zero =>
    intro listed a w inv _ hr hy hS H
    refine ⟨fun h => (by rw [h] at hr; cases hr), fun j hj => ?_⟩
    by_cases hji : j = i
    · subst hji; exact hy.wpOp hi hS ⟨fun _ => hS, H⟩
    · have := ready_mono hj hji
      rw [H.1] at this
      cases this
  | succ f ih =>
    intro listed a w inv hfree hr hy hS H
    have hun := (mem_ready.1 hr).1
    refine ⟨fun h => (by rw [h] at hr; cases hr), fun j hj => ?_⟩
    have hjn : j < n := Nat.lt_of_not_le fun h => tail_waits hs hc hn inv _ i rfl hin hun j h hj
    by_cases hji : j = i
    · subst hji; exact hy.wpOp hi hS ⟨fun _ => hS, H⟩
    · have h1 := H.2 j (ready_mono hj hji)
      obtain ⟨hjun, oj, hoj, hall⟩ := mem_ready.1 hj
      have hnot : ∀ e ∈ oj.after, Region.binds md e = true → e.on ≠ i := fun e he hb heq => by
        have h1 := hall e he hb
        rw [heq, getD_both hun] at h1
        cases h1
      have h2 := wpOp_putIf hoj (hfree j oj hoj hji hjun hnot) (fun cs b => hsel i oi cs b hi) (fun cs b => hsel j oj cs b hoj) hQ hy h1
      have hfree' : ∀ k ok, ops[k]? = some ok → k ≠ i → (listed.setIfInBounds j true).getD k true = false →
          (∀ e ∈ ok.after, Region.binds md e = true → e.on ≠ i) → oi.apart ops ok = true := fun k ok hk hki hun' hno => by
        refine hfree k ok hk hki ?_ hno
        by_cases hjk : j = k
        · subst hjk; exact hjun
        · rw [getD_set_ne true hjk] at hun'; exact hun'
      refine wpOp_mono (fun a' w' h3 => ⟨h3.2.1, ih (listed.setIfInBounds j true) a' w' (inv.set hj hjn) hfree' (ready_mono hr (Ne.symm hji)) h3.1 (h3.2.1 hjn) ?_⟩) h2
      rw [Array.setIfInBounds_comm _ _ hji]
      exact h3.2.2

/-- The operations taken first: each yields its value in every world that meets S. -/
def wpTake (P : Program) (ops : Array Oper) (S : World → Prop) (R : Act → Prop) : List Oper → Act → Prop
  | [], a => R a
  | o :: l, a => ∃ v, YieldsIf P ops S o v a ∧ wpTake P ops S R l (a.put o.dst v)
theorem wpTake_nil {R : Act → Prop} {a : Act} (h : R a) : wpTake P ops S R [] a := h
theorem wpTake_cons' {R : Act → Prop} {o : Oper} {l : List Oper} {a : Act} (hg : o.guard = none) (h : ∃ v, (∀ w, S w → (execOp a.eval o).run P w = .ok (.value v) w) ∧ wpTake P ops S R l (a.put o.dst v)) : wpTake P ops S R (o :: l) a :=
  ⟨h.choose, .inl ⟨by simp [Region.wanted, hg], h.choose_spec.1⟩, h.choose_spec.2⟩
/-- The operations in their one order, S behind each. -/
def wpForce (P : Program) (ops : Array Oper) (Q : Exit → Act → World → Prop) (S : World → Prop) (R : Act → World → Prop) : List Oper → Act → World → Prop
  | [], a, w => R a w
  | o :: l, a, w => if Region.wanted o (yielded ops a.tmps) then o.wp P a w (fun a' w' => S w' ∧ wpForce P ops Q S R l a' w') Q else S w ∧ wpForce P ops Q S R l (a.put o.dst undef) w
theorem wpForce_nil {R : Act → World → Prop} {a : Act} {w : World} (h : R a w) : wpForce P ops Q S R [] a w := h
theorem wpForce_cons {R : Act → World → Prop} {o : Oper} {l : List Oper} {a : Act} {w : World} (hg : o.guard = none)
    (h : ∀ K : Act → World → Prop, (∀ a' w', S w' → wpForce P ops Q S R l a' w' → K a' w') → o.wp P a w K Q) : wpForce P ops Q S R (o :: l) a w := by
  unfold wpForce
  rw [if_pos (by simp [Region.wanted, hg])]
  exact h _ fun a' w' h1 h2 => ⟨h1, h2⟩

def forceB (md : Region.Mode) (ops : Array Oper) (g n : Nat) : List Nat → Array Bool → Bool
  | [], listed => Region.seqB md ops g n listed
  | k :: l, listed => decide (k < n) && decide (Region.ready md ops listed = [k]) && forceB md ops g n l (listed.setIfInBounds k true)
def takeB (md : Region.Mode) (ops : Array Oper) (g n : Nat) (B : List Nat) : List Nat → Array Bool → Bool
  | [], listed => forceB md ops g n B listed
  | k :: l, listed => decide (k < n) && (((ops[k]?).bind (·.dst)).isSome) && (Region.ready md ops listed).contains k && Region.free md ops listed k && takeB md ops g n B l (listed.setIfInBounds k true)
def heldB (md : Region.Mode) (ops : Array Oper) (n : Nat) (A B : List Nat) : Bool :=
  Region.noSelect ops && decide (n < ops.size) && decide (A.length + B.length = n) && Region.sinkB md ops n && Region.chainB md ops n && takeB md ops (ops.size - n) n B A (Array.replicate ops.size false)

theorem anyK_seq {n : Nat} : ∀ (l : List Oper) (k : Nat) (listed : Array Bool) (a : Act) (w : World), n ≤ k → (∀ j, l[j]? = ops[k + j]?) →
    Region.seqB md ops l.length k listed = true → wpList P ops Q l a w → anyK P md ops Q S n l.length listed a w
  | [], _, _, _, _, _, _, hB, h => ⟨by simpa [Region.seqB] using hB, h⟩
  | o :: l, k, listed, a, w, hk, hl, hB, h => by
    have h0 : ops[k]? = some o := by simpa using (hl 0).symm
    simp only [List.length_cons, Region.seqB, Bool.and_eq_true, decide_eq_true_eq] at hB
    refine ⟨fun h1 => (by rw [hB.1] at h1; cases h1), fun i hi => ?_⟩
    rw [hB.1] at hi
    have hik : i = k := by simpa using hi
    subst hik
    have hw : wpOp P ops Q i (wpList P ops Q l) a w := by unfold wpOp; simp only [h0]; exact h
    exact wpOp_mono (fun a' w' h' => ⟨fun h => absurd h (Nat.not_lt.2 hk), anyK_seq l (i + 1) _ a' w' (by omega) (fun j => by have := hl (j + 1); simpa [Nat.add_assoc, Nat.add_comm 1 j] using this) hB.2 h'⟩) hw

theorem anyK_force {n : Nat} : ∀ (B : List Nat) (listed : Array Bool) (a : Act) (w : World), S w → forceB md ops (ops.size - n) n B listed = true →
    wpForce P ops Q S (wpList P ops Q (ops.toList.drop n)) (pickOps ops B) a w → n < ops.size → anyK P md ops Q S n (B.length + (ops.size - n)) listed a w
  | [], listed, a, w, _, hB, h, hn => by
    have hl : (ops.toList.drop n).length = ops.size - n := by simp
    rw [List.length_nil, Nat.zero_add, ← hl]
    exact anyK_seq _ n listed a w (Nat.le_refl _) (fun j => by simp) (by rw [hl]; exact hB) h
  | k :: B, listed, a, w, hS, hB, h, hn => by
    simp only [forceB, Bool.and_eq_true, decide_eq_true_eq] at hB
    obtain ⟨⟨hk, hr⟩, hB'⟩ := hB
    rw [show (k :: B).length + (ops.size - n) = (B.length + (ops.size - n)) + 1 by simp; omega]
    refine ⟨fun h1 => (by rw [hr] at h1; cases h1), fun i hi => ?_⟩
    obtain ⟨_, o, h0, _⟩ := mem_ready.1 hi
    rw [hr] at hi
    have hik : i = k := by simpa using hi
    subst hik
    rw [pickOps_cons, h0, Option.getD_some] at h
    unfold wpForce at h
    unfold wpOp
    simp only [h0]
    split
    · rename_i hw
      rw [if_pos hw] at h
      exact .inl (Oper.wp_mono (fun a' w' h' => ⟨fun _ => h'.1, anyK_force B _ a' w' h'.1 hB' h'.2 hn⟩) h)
    · rename_i hw
      rw [if_neg hw] at h
      exact ⟨fun _ => h.1, anyK_force B _ _ w h.1 hB' h.2 hn⟩

theorem anyK_take {n : Nat} {B : List Nat} (hsel : Region.noSelect ops = true) (hs : Region.sinkB md ops n = true) (hc : Region.chainB md ops n = true) (hn : n < ops.size)
    (hQ : ∀ c a d v w, Q (.panic c) (a.put (some d) v) w → Q (.panic c) a w) :
    ∀ (A : List Nat) (listed : Array Bool) (a : Act) (w : World), S w → HeadInv md ops n listed → takeB md ops (ops.size - n) n B A listed = true →
    wpTake P ops S (fun a' => wpForce P ops Q S (wpList P ops Q (ops.toList.drop n)) (pickOps ops B) a' w) (pickOps ops A) a → anyK P md ops Q S n (A.length + (B.length + (ops.size - n))) listed a w
  | [], listed, a, w, hS, _, hB, h => by
    rw [List.length_nil, Nat.zero_add]
    exact anyK_force B listed a w hS hB h hn
  | k :: A, listed, a, w, hS, inv, hB, h => by
    simp only [takeB, Bool.and_eq_true, decide_eq_true_eq] at hB
    obtain ⟨⟨⟨⟨hkn, hd⟩, hr⟩, hf⟩, hB'⟩ := hB
    have hr' : k ∈ Region.ready md ops listed := by simpa using hr
    obtain ⟨hkun, o, h0, _⟩ := mem_ready.1 hr'
    rw [pickOps_cons, h0, Option.getD_some] at h
    obtain ⟨v, hy, hK⟩ := h
    rw [h0] at hd
    obtain ⟨d, hd'⟩ := Option.isSome_iff_exists.1 hd
    simp only [Option.bind_some] at hd'
    rw [show (k :: A).length + (B.length + (ops.size - n)) = (A.length + (B.length + (ops.size - n))) + 1 by simp; omega]
    exact anyK_first h0 (Region.noSelect_spec hsel) hs hc hn hkn (fun c a w => by rw [hd']; exact hQ c a d _ w) _ listed a w inv (Region.free_spec h0 hf) hr' hy hS
      (anyK_take hsel hs hc hn hQ A _ _ w hS (inv.set hr' hkn) hB' hK)

theorem wp_region_take {id : Nat} {a : Act} {w : World} {l : List Oper} (n : Nat) (A B : List Nat) (S : World → Prop) (hm : P.follows .mixedOrders = true) (hB : heldB .any l.toArray n A B = true)
    (hQ : ∀ c a d v w, Q (.panic c) (a.put (some d) v) w → Q (.panic c) a w) (hS : S w.drew)
    (h : wpTake P l.toArray S (fun a' => wpForce P l.toArray Q S (wpList P l.toArray Q (l.drop n)) (pickOps l.toArray B) a' w.drew) (pickOps l.toArray A) a) : (Code.region id l.toArray true).wp P Q a w := by
  simp only [heldB, Bool.and_eq_true, decide_eq_true_eq] at hB
  obtain ⟨⟨⟨⟨⟨hsel, hn⟩, hAB⟩, hs⟩, hc⟩, ht⟩ := hB
  have inv0 : HeadInv .any l.toArray n (Array.replicate l.toArray.size false) :=
    ⟨by simp, fun j oj _ hl => (by rw [getD_replicate_false] at hl; cases hl), fun t _ ht => getD_in (by simpa using ht) (getD_replicate_false _ _)⟩
  have := anyK_take (P := P) (S := S) hsel hs hc hn hQ A _ a w.drew hS inv0 ht h
  rw [show A.length + (B.length + (l.toArray.size - n)) = l.toArray.size by omega] at this
  exact wp_region_any hm (anyK_any _ _ _ _ this)
end
end Go.RR
