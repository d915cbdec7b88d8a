/- The drawn region of fill: the map literal, by an invariant over what is listed. Printed by gen_fill.py. No condition. -/
import Derived.Test.YtfidiiifcmmffaaGreatDoorProg
import Derived.Test.YtfidiiifcmmffaaGreatDoorAny
import Derived.Test.YtfidiiifcmmffaaGreatDoorMapS
set_option linter.unusedVariables false
set_option linter.unusedSimpArgs false
namespace Go.Proofs.YtfidiiifcmmffaaGreatDoor
open Go.RowKit Go.RR
def regAt (n : Nat) : Code → Option (Array Oper)
  | .region i ops _ => if i = n then some ops else none
  | .seq a b => (regAt n a).or (regAt n b)
  | .cond _ a b => (regAt n a).or (regAt n b)
  | .block _ b => regAt n b
  | .loop b => regAt n b
  | .scope b => regAt n b
  | _ => none
/-- These are the operations of the region. -/
def IsFill (ops : Array Oper) : Prop := Tryz.f32.body.bind (regAt 1) = some ops
/-- The slot that an operation writes. -/
def fTab : List (Option Nat) := [some 13, some 14, none, some 15, some 16, some 17, some 18, some 19, some 20, some 21, none, some 22, some 23, some 24, some 25, some 26, some 27, some 28, none, some 29, some 30, some 31, some 32, some 33, some 34, some 35, some 36, some 37, some 38, none, some 39, some 40, some 41, some 42, some 43, some 44, some 45, some 46, some 47, some 48, none, some 49, some 50, some 51, some 52, some 53, some 54, some 55, some 56, some 57, some 58, none, some 59, some 60, some 61, some 62, some 63, some 64, some 65, none, some 66, some 67, some 68, some 69, some 70, some 71, some 72, some 73, some 74, some 75, none, some 76, some 77, some 78, some 7]
def fDst (i : Nat) : Option Nat := fTab.getD i none
def fSl : List (Nat × Nat × List Nat) := [(1, 14, []), (9, 21, [1, 4]), (17, 28, [1, 4]), (28, 38, [1, 2, 4]), (39, 48, [1, 2, 3]), (50, 58, [1, 2, 3]), (58, 65, [1, 2]), (69, 75, [2, 3, 4])]
def fIns : List (ByteArray × Nat × Nat) := [(⟨#[78]⟩, 2, 14), (⟨#[73]⟩, 10, 21), (⟨#[74]⟩, 18, 28), (⟨#[82, 73]⟩, 29, 38), (⟨#[82]⟩, 40, 48), (⟨#[65]⟩, 51, 58), (⟨#[85]⟩, 59, 65), (⟨#[66]⟩, 70, 75)]
/-- The fields of a kind's slots. -/
def fFs (s : Nat) : List Nat := ((fSl.find? fun e => e.2.1 == s).map (·.2.2)).getD []
def fSlV (B : Nat → Nat) (s : Nat) : Value := .slice (some ⟨B s, 0, none⟩) (fFs s).length (fFs s).length
def fRes (B : Nat → Nat) (kind : ByteArray) : Value := ((fIns.find? fun e => e.1 == kind).map fun e => fSlV B e.2.2).getD (.slice none 0 0)
def fFa : List (Nat × Nat) := [(17, 1), (20, 4), (24, 1), (27, 4), (31, 1), (34, 2), (37, 4), (41, 1), (44, 2), (47, 3), (51, 1), (54, 2), (57, 3), (61, 1), (64, 2), (68, 2), (71, 3), (74, 4)]
/-- The value of a slot once it is written. -/
def fval (b : Nat) (kind : ByteArray) (B : Nat → Nat) (s : Nat) : Value :=
  if s = 13 ∨ s = 76 then .map (some (B 13)) else if s = 77 then .string kind else if s = 78 ∨ s = 7 then fRes B kind
  else match fSl.find? (fun e => e.2.1 == s) with
    | some _ => fSlV B s
    | none => match fFa.find? (fun e => e.1 == s) with
      | some e => .pointer (some ⟨b, e.2, none⟩)
      | none => .pointer (some ⟨b, 0, none⟩)
def fCells (b s : Nat) : Array Value := ((fFs s).map fun f => Value.pointer (some ⟨b, f, none⟩)).toArray
/-- What the map holds of a key. -/
def fLook (listed : Array Bool) (B : Nat → Nat) (key : ByteArray) : Option Value := match fIns.find? (fun e => e.1 == key) with
  | some e => if listed.getD e.2.1 false = true then some (fSlV B e.2.2) else none
  | none => none
/-- What an operation waits for. -/
def dTab : List (List Nat) := [[], [], [0, 1], [], [3], [4], [], [6], [7], [5, 8], [0, 9], [], [11], [12], [], [14], [15], [13, 16], [0, 17], [], [19], [20], [], [22], [23], [], [25], [26], [21, 24, 27], [0, 28], [], [30], [31], [], [33], [34], [], [36], [37], [32, 35, 38], [0, 39], [], [41], [42], [], [44], [45], [], [47], [48], [43, 46, 49], [0, 50], [], [52], [53], [], [55], [56], [54, 57], [0, 58], [], [60], [61], [], [63], [64], [], [66], [67], [62, 65, 68], [0, 69], [0, 1, 2, 3, 4, 5, 6, 7, 8, 9, 10, 11, 12, 13, 14, 15, 16, 17, 18, 19, 20, 21, 22, 23, 24, 25, 26, 27, 28, 29, 30, 31, 32, 33, 34, 35, 36, 37, 38, 39, 40, 41, 42, 43, 44, 45, 46, 47, 48, 49, 50, 51, 52, 53, 54, 55, 56, 57, 58, 59, 60, 61, 62, 63, 64, 65, 66, 67, 68, 69, 70], [], [71, 72], [73]]
def depT (k : Nat) : List Nat := dTab.getD k []
theorem clo_set {listed : Array Bool} {i : Nat} (hi : i < listed.size) (get : ∀ j, (listed.setIfInBounds i true).getD j false = (if j = i then true else listed.getD j false)) (h : ∀ k, listed.getD k false = true → ∀ j ∈ depT k, listed.getD j false = true) (hd : ∀ j ∈ depT i, listed.getD j false = true) :
    ∀ k, (listed.setIfInBounds i true).getD k false = true → ∀ j ∈ depT k, (listed.setIfInBounds i true).getD j false = true := by
  intro k hk j hj
  rw [get] at hk ⊢
  by_cases e2 : j = i
  · rw [if_pos e2]
  · rw [if_neg e2]
    by_cases e : k = i
    · subst e; exact hd j hj
    · rw [if_neg e] at hk; exact h k hk j hj
structure FI (a0 : Act) (w0 : World) (b : Nat) (kind : ByteArray) (B : Nat → Nat) (listed : Array Bool) (a : Act) (w : World) : Prop where
  act : a.defers = a0.defers
  size : a.tmps.size = 111
  lsz : listed.size = 75
  keep : ∀ s, s < 7 → a.tmps.getD s undef = a0.tmps.getD s undef
  slot : ∀ i s, fDst i = some s → listed.getD i false = true → a.tmps.getD s undef = fval b kind B s
  chg : Chg NoB w0 w
  fresh : ∀ e ∈ fSl, listed.getD e.1 false = true → w0.heap.size ≤ B e.2.1 ∧ Blk w (B e.2.1) (fCells b e.2.1) 103 ∧ (listed.getD 0 false = true → B e.2.1 ≠ B 13)
  map : listed.getD 0 false = true → w0.heap.size ≤ B 13 ∧ ∃ m, SMapAt w (B 13) m ∧ ∀ key, smlook m key = fLook listed B key
  clo : ∀ k, listed.getD k false = true → ∀ j ∈ depT k, listed.getD j false = true
theorem fill_ops {ops : Array Oper} (h : IsFill ops) : ops = (Tryz.f32.body.bind (regAt 1)).getD #[] := by rw [show Tryz.f32.body.bind (regAt 1) = some ops from h]; rfl
theorem fill_size {ops : Array Oper} (h : IsFill ops) : ops.size = 75 := by rw [fill_ops h]; kernel_rfl
theorem fDst_inj : ∀ i < 75, ∀ j < 75, ∀ s, fDst i = some s → fDst j = some s → i = j := by
  have h : ((List.range 75).all fun i => (List.range 75).all fun j => (fDst i).isNone || fDst i != fDst j || i == j) = true := by kernel_rfl
  intro i hi j hj s h1 h2
  have := List.all_eq_true.1 (List.all_eq_true.1 h i (List.mem_range.2 hi)) j (List.mem_range.2 hj)
  rw [h1, h2] at this
  simpa using this
theorem fDst_lt : ∀ i s, fDst i = some s → i < 75 ∧ s < 111 ∧ (s < 7 → False) := by
  intro i s h
  have hi : i < 75 := by
    rcases Nat.lt_or_ge i 75 with c | c
    · exact c
    · unfold fDst at h
      rw [List.getD_eq_getElem?_getD, List.getElem?_eq_none (by show 75 ≤ i; exact c)] at h
      cases h
  have h2 : ((List.range 75).all fun i => match fDst i with | none => true | some s => decide (s < 111) && decide (7 ≤ s)) = true := by kernel_rfl
  have := List.all_eq_true.1 h2 i (List.mem_range.2 hi)
  rw [h] at this
  simp only [Bool.and_eq_true, decide_eq_true_eq] at this
  exact ⟨hi, this.1, fun h => by omega⟩
theorem get_set {listed : Array Bool} {i j : Nat} (hi : i < listed.size) : (listed.setIfInBounds i true).getD j false = (if j = i then true else listed.getD j false) := by
  simp only [Array.getD_eq_getD_getElem?, Array.getElem?_setIfInBounds]
  by_cases h : i = j
  · subst h; simp [hi]
  · rw [if_neg h, if_neg (fun e => h e.symm)]
theorem tget_set {t : Array Value} {i j : Nat} (hi : i < t.size) (v : Value) : (t.setIfInBounds i v).getD j undef = (if j = i then v else t.getD j undef) := by
  simp only [Array.getD_eq_getD_getElem?, Array.getElem?_setIfInBounds]
  by_cases h : i = j
  · subst h; simp [hi]
  · rw [if_neg h, if_neg (fun e => h e.symm)]
/-- One more operation is listed that writes a slot; the world may have grown. -/
theorem FI.more {a0 : Act} {w0 : World} {b : Nat} {kind : ByteArray} {B B' : Nat → Nat} {listed : Array Bool} {a : Act} {w w' : World} (h : FI a0 w0 b kind B listed a w) {i s : Nat} {v : Value}
    (hd : fDst i = some s) (hn : listed.getD i true = false) (hv : v = fval b kind B' s) (hB : ∀ j t, fDst j = some t → listed.getD j false = true → fval b kind B' t = fval b kind B t) (hc : Chg NoB w w')
    (hf : ∀ e ∈ fSl, (listed.setIfInBounds i true).getD e.1 false = true → w0.heap.size ≤ B' e.2.1 ∧ Blk w' (B' e.2.1) (fCells b e.2.1) 103 ∧ ((listed.setIfInBounds i true).getD 0 false = true → B' e.2.1 ≠ B' 13))
    (hm : (listed.setIfInBounds i true).getD 0 false = true → w0.heap.size ≤ B' 13 ∧ ∃ m, SMapAt w' (B' 13) m ∧ ∀ key, smlook m key = fLook (listed.setIfInBounds i true) B' key)
    (hdp : ∀ j ∈ depT i, listed.getD j false = true) : FI a0 w0 b kind B' (listed.setIfInBounds i true) (a.put (some s) v) w' := by
  obtain ⟨hi, hs, h7⟩ := fDst_lt i s hd
  have hil : i < listed.size := by rw [h.lsz]; exact hi
  have hst : s < a.tmps.size := by rw [h.size]; exact hs
  refine ⟨h.act, by show (a.tmps.setIfInBounds s v).size = 111; rw [Array.size_setIfInBounds]; exact h.size, by rw [Array.size_setIfInBounds]; exact h.lsz, ?_, ?_, h.chg.step hc, hf, hm, ?_⟩
  · intro t ht
    show (a.tmps.setIfInBounds s v).getD t undef = _
    rw [tget_set hst, if_neg (fun e : t = s => h7 (by omega))]
    exact h.keep t ht
  · intro j t hj hl
    show (a.tmps.setIfInBounds s v).getD t undef = _
    rw [tget_set hst]
    rw [get_set hil] at hl
    by_cases e : j = i
    · subst e
      have : t = s := Option.some.inj (hj.symm.trans hd)
      subst this
      rw [if_pos rfl, hv]
    · rw [if_neg e] at hl
      rw [if_neg (fun et : t = s => e (fDst_inj j (fDst_lt j t hj).1 i hi t hj (by rw [et]; exact hd))), hB j t hj hl]
      exact h.slot j t hj hl
  · exact clo_set hil (fun j => get_set hil) h.clo hdp
def up (B : Nat → Nat) (s n : Nat) : Nat → Nat := fun j => if j = s then n else B j
theorem up_same (B : Nat → Nat) (s n : Nat) : up B s n s = n := if_pos rfl
theorem up_ne (B : Nat → Nat) {s n j : Nat} (h : j ≠ s) : up B s n j = B j := if_neg h
/-- It is no operation that makes a slice, lays into the map, or makes the map. -/
def fPure (i : Nat) : Bool := decide (i ≠ 0) && (fSl.all fun e => e.1 != i) && (fIns.all fun e => e.2.1 != i)
theorem look_pure {listed : Array Bool} {B : Nat → Nat} {i : Nat} (hi : i < listed.size) (h : (fIns.all fun e => e.2.1 != i) = true) (key : ByteArray) : fLook (listed.setIfInBounds i true) B key = fLook listed B key := by
  unfold fLook
  cases hf : fIns.find? (fun e => e.1 == key) with
  | none => rfl
  | some e =>
    have := List.all_eq_true.1 h e (List.mem_of_find?_eq_some hf)
    simp only [bne_iff_ne, ne_eq] at this
    simp only [get_set hi, if_neg this]
theorem FI.pure {a0 : Act} {w0 : World} {b : Nat} {kind : ByteArray} {B : Nat → Nat} {listed : Array Bool} {a : Act} {w : World} (h : FI a0 w0 b kind B listed a w) {i s : Nat} {v : Value}
    (hd : fDst i = some s) (hp : fPure i = true) (hn : listed.getD i true = false) (hv : v = fval b kind B s) (hdp : ∀ j ∈ depT i, listed.getD j false = true) :
    FI a0 w0 b kind B (listed.setIfInBounds i true) (a.put (some s) v) w := by
  unfold fPure at hp
  simp only [Bool.and_eq_true, decide_eq_true_eq] at hp
  obtain ⟨⟨h0, h1⟩, h2⟩ := hp
  have hil : i < listed.size := by rw [h.lsz]; exact (fDst_lt i s hd).1
  refine h.more hd hn hv (fun _ _ _ _ => rfl) (Chg.refl NoB w) ?_ ?_ hdp
  · intro e he hl
    have hne := List.all_eq_true.1 h1 e he
    simp only [bne_iff_ne, ne_eq] at hne
    rw [get_set hil, if_neg hne] at hl
    rw [get_set hil, if_neg (fun e => h0 e.symm)]
    exact h.fresh e he hl
  · rw [get_set hil, if_neg (fun e => h0 e.symm)]
    intro hl
    obtain ⟨q, m, hm, hk⟩ := h.map hl
    exact ⟨q, m, hm, fun key => by rw [hk, look_pure hil h2]⟩
theorem fval_upd {b : Nat} {kind : ByteArray} {B : Nat → Nat} {s n t : Nat} (hs : (∃ e ∈ fSl, e.2.1 = s)) (ht : t ≠ s) (h78 : t ≠ 78 ∧ t ≠ 7) : fval b kind (up B s n) t = fval b kind B t := by
  have hs13 : (13 : Nat) ≠ s := by obtain ⟨e, he, rfl⟩ := hs; exact (by decide : ∀ e ∈ fSl, (13 : Nat) ≠ e.2.1) e he
  unfold fval
  rw [up_ne B hs13]
  by_cases h1 : t = 13 ∨ t = 76
  · rw [if_pos h1, if_pos h1]
  · rw [if_neg h1, if_neg h1]
    by_cases h2 : t = 77
    · rw [if_pos h2, if_pos h2]
    · rw [if_neg h2, if_neg h2, if_neg (by omega), if_neg (by omega)]
      unfold fSlV
      rw [up_ne B ht]
theorem fLook_upd {listed : Array Bool} {B : Nat → Nat} {s n : Nat} {key : ByteArray} (h : ∀ e ∈ fIns, e.2.2 = s → listed.getD e.2.1 false ≠ true) : fLook listed (up B s n) key = fLook listed B key := by
  unfold fLook
  cases hf : fIns.find? (fun e => e.1 == key) with
  | none => rfl
  | some e =>
    have he := List.mem_of_find?_eq_some hf
    by_cases hl : listed.getD e.2.1 false = true
    · simp only [hl, if_true]
      have : e.2.2 ≠ s := fun hs => h e he hs hl
      unfold fSlV
      rw [up_ne B this]
    · simp only [hl, if_false, Bool.false_eq_true]

/-- What makes a slice: a fresh block. -/
theorem FI.slice {a0 : Act} {w0 : World} {b : Nat} {kind : ByteArray} {B : Nat → Nat} {listed : Array Bool} {a : Act} {w : World} (h : FI a0 w0 b kind B listed a w) {i s : Nat} {fs : List Nat}
    (he : (i, s, fs) ∈ fSl) (hd : fDst i = some s) (hn : listed.getD i true = false) (hins : ∀ e ∈ fIns, e.2.2 = s → listed.getD e.2.1 false ≠ true) (hdp : ∀ j ∈ depT i, listed.getD j false = true) (h78 : listed.getD 73 false = false ∧ listed.getD 74 false = false) :
    ∃ B', FI a0 w0 b kind B' (listed.setIfInBounds i true) (a.put (some s) (.slice (some ⟨w.heap.size, 0, none⟩) (fFs s).length (fFs s).length)) (w.alloc (.cells (fCells b s) 103)) := by
  have hil : i < listed.size := by rw [h.lsz]; exact (fDst_lt i s hd).1
  have hne : ∀ e ∈ fSl, ∀ e' ∈ fSl, e.2.1 = e'.2.1 → e = e' := by decide
  have h13 : ∀ e ∈ fSl, e.2.1 ≠ 13 := by decide
  have hi0 : ∀ e ∈ fSl, e.1 ≠ 0 ∧ e.1 ≠ 71 := by decide
  have hli : ∀ e ∈ fSl, ∀ e' ∈ fIns, e.1 ≠ e'.2.1 := by decide
  have hs13 : (13 : Nat) ≠ s := fun e => h13 _ he e.symm
  have hBn : ∀ e ∈ fSl, listed.getD e.1 false = true → e.2.1 ≠ s := by
    intro e hm hl hs
    have := hne e hm _ he hs
    rw [this] at hl
    simp only [Array.getD_eq_getD_getElem?, Array.getElem?_eq_getElem hil, Option.getD_some] at hl hn
    rw [hl] at hn
    cases hn
  have c := (Chg.refl NoB w).alloc (.cells (fCells b s) 103)
  refine ⟨up B s w.heap.size, h.more hd hn ?_ ?_ c ?_ ?_ hdp⟩
  · unfold fval
    have h76 : ∀ e ∈ fSl, e.2.1 ≠ 76 := by decide
    rw [if_neg (fun e => e.elim (fun e => hs13 e.symm) (h76 _ he)), if_neg ((by decide : ∀ e ∈ fSl, e.2.1 ≠ 77) _ he), if_neg (fun e => e.elim ((by decide : ∀ e ∈ fSl, e.2.1 ≠ 78) _ he) ((by decide : ∀ e ∈ fSl, e.2.1 ≠ 7) _ he))]
    have : ∀ e ∈ fSl, (fSl.find? fun e' => e'.2.1 == e.2.1) = some e := by decide
    rw [this _ he]
    unfold fSlV
    rw [up_same]
  · intro j t hj hl
    by_cases ht : t = s
    · exfalso
      subst ht
      have := fDst_inj j (fDst_lt j t hj).1 i (fDst_lt i t hd).1 t hj hd
      subst this
      simp only [Array.getD_eq_getD_getElem?, Array.getElem?_eq_getElem hil, Option.getD_some] at hl hn
      rw [hl] at hn
      cases hn
    · refine fval_upd ⟨_, he, rfl⟩ ht ⟨?_, ?_⟩
      · rintro rfl
        have : j = 73 := fDst_inj j (fDst_lt j _ hj).1 73 (by omega) 78 hj rfl
        rw [this, h78.1] at hl
        cases hl
      · rintro rfl
        have : j = 74 := fDst_inj j (fDst_lt j _ hj).1 74 (by omega) 7 hj rfl
        rw [this, h78.2] at hl
        cases hl
  · intro e hm hl
    rw [get_set hil] at hl
    rw [get_set hil, if_neg (fun e' => (hi0 _ he).1 e'.symm)]
    by_cases hs : e.2.1 = s
    · have := hne e hm _ he hs
      subst this
      simp only [up_same]
      refine ⟨h.chg.size, Blk.new w _ _, fun h0 => ?_⟩
      rw [up_ne B hs13]
      obtain ⟨_, m, hm, _⟩ := h.map h0
      have := hm.lt
      omega
    · have hne2 : e.1 ≠ i := fun e' => by
        have : ∀ e ∈ fSl, ∀ e' ∈ fSl, e.1 = e'.1 → e.2.1 = e'.2.1 := by decide
        exact hs (this e hm _ he e')
      rw [if_neg hne2] at hl
      obtain ⟨q1, q2, q3⟩ := h.fresh e hm hl
      rw [up_ne B hs, up_ne B hs13]
      exact ⟨q1, q2.alloc _, q3⟩
  · rw [get_set hil, if_neg (fun e' => (hi0 _ he).1 e'.symm)]
    intro h0
    obtain ⟨q, m, hm, hk⟩ := h.map h0
    rw [up_ne B hs13]
    refine ⟨q, m, hm.chg ((Chg.refl NoB w).alloc _) id, fun key => ?_⟩
    rw [hk, look_pure hil (List.all_eq_true.2 fun e hm => by simp only [bne_iff_ne, ne_eq]; exact fun e' => hli _ he e hm e'.symm), fLook_upd hins]
/-- What makes the map. -/
theorem FI.mkmap {a0 : Act} {w0 : World} {b : Nat} {kind : ByteArray} {B : Nat → Nat} {listed : Array Bool} {a : Act} {w : World} (h : FI a0 w0 b kind B listed a w)
    (hn : listed.getD 0 true = false) (hins : ∀ e ∈ fIns, listed.getD e.2.1 false ≠ true) (h7 : listed.getD 71 false = false) :
    ∃ B', FI a0 w0 b kind B' (listed.setIfInBounds 0 true) (a.put (some 13) (.map (some w.heap.size))) (w.alloc (.map #[] 0)) := by
  have hil : 0 < listed.size := by rw [h.lsz]; omega
  have h13 : ∀ e ∈ fSl, e.2.1 ≠ 13 := by decide
  have hi0 : ∀ e ∈ fSl, e.1 ≠ 0 := by decide
  have hi1 : ∀ e ∈ fIns, e.2.1 ≠ 0 ∧ e.2.2 ≠ 13 := by decide
  have hfl : ∀ B' : Nat → Nat, (∀ s, s ≠ 13 → B' s = B s) → ∀ t, t ≠ 13 → t ≠ 76 → fval b kind B' t = fval b kind B t := by
    intro B' hB t h1 h2
    have hsl : ∀ e ∈ fSl, fSlV B' e.2.1 = fSlV B e.2.1 := fun e he => by unfold fSlV; rw [hB _ (h13 e he)]
    have n1 : ¬ (t = 13 ∨ t = 76) := by omega
    unfold fval
    rw [if_neg n1, if_neg n1]
    by_cases h77 : t = 77
    · rw [if_pos h77, if_pos h77]
    · rw [if_neg h77, if_neg h77]
      by_cases h78 : t = 78 ∨ t = 7
      · rw [if_pos h78, if_pos h78]
        unfold fRes
        cases hf : fIns.find? (fun e => e.1 == kind) with
        | none => rfl
        | some e =>
          have := List.mem_of_find?_eq_some hf
          show fSlV B' e.2.2 = fSlV B e.2.2
          unfold fSlV
          rw [hB _ (hi1 e this).2]
      · rw [if_neg h78, if_neg h78]
        cases hf : fSl.find? (fun e => e.2.1 == t) with
        | none => rfl
        | some e =>
          have h3 : e.2.1 = t := by simpa using List.find?_some hf
          show fSlV B' t = fSlV B t
          rw [← h3]
          exact hsl e (List.mem_of_find?_eq_some hf)
  refine ⟨up B 13 w.heap.size, h.more rfl hn (by unfold fval; rw [if_pos (.inl rfl), up_same]) ?_ ((Chg.refl NoB w).alloc _) ?_ ?_ (fun j hj => by cases hj)⟩
  · intro j t hj hl
    refine hfl _ (fun s hs => up_ne B hs) t ?_ ?_
    · rintro rfl
      have : j = 0 := fDst_inj j (fDst_lt j _ hj).1 0 (by omega) 13 hj rfl
      subst this
      simp only [Array.getD_eq_getD_getElem?, Array.getElem?_eq_getElem hil, Option.getD_some] at hl hn
      rw [hl] at hn
      cases hn
    · rintro rfl
      have : j = 71 := fDst_inj j (fDst_lt j _ hj).1 71 (by omega) 76 hj rfl
      rw [this, h7] at hl
      cases hl
  · intro e hm hl
    rw [get_set hil, if_neg (hi0 e hm)] at hl
    obtain ⟨q1, q2, q3⟩ := h.fresh e hm hl
    rw [up_ne B (h13 e hm), up_same]
    refine ⟨q1, q2.alloc _, fun _ => ?_⟩
    have := q2.lt
    omega
  · intro _
    rw [up_same]
    refine ⟨h.chg.size, [], SMapAt.new w, fun key => ?_⟩
    unfold fLook
    cases hf : fIns.find? (fun e => e.1 == key) with
    | none => rfl
    | some e =>
      have hm := List.mem_of_find?_eq_some hf
      simp only [get_set hil, if_neg (hi1 e hm).1, hins e hm, if_false, Bool.false_eq_true]
      rfl
/-- What lays into the map. -/
theorem FI.ins {a0 : Act} {w0 : World} {b : Nat} {kind : ByteArray} {B : Nat → Nat} {listed : Array Bool} {a : Act} {w : World} (h : FI a0 w0 b kind B listed a w) {i s : Nat} {key : ByteArray} {w' : World}
    (he : (key, i, s) ∈ fIns) (hdp : ∀ j ∈ depT i, listed.getD j false = true) (hn : listed.getD i true = false) (h0 : listed.getD 0 false = true) (hm : ∃ m, SMapAt w (B 13) m ∧ (∀ k, smlook m k = fLook listed B k) ∧ SMapAt w' (B 13) (smput m key (fSlV B s))) (hc : Chg (· = B 13) w w') :
    FI a0 w0 b kind B (listed.setIfInBounds i true) (a.put none undef) w' := by
  have hi : ∀ e ∈ fIns, e.2.1 < 75 ∧ e.2.1 ≠ 0 ∧ e.2.1 ≠ 71 ∧ fDst e.2.1 = none := by decide
  obtain ⟨hi1, hi2, hi3, hi4⟩ := hi _ he
  have hil : i < listed.size := by rw [h.lsz]; exact hi1
  have hsl : ∀ e ∈ fSl, ∀ e' ∈ fIns, e.1 ≠ e'.2.1 := by decide
  obtain ⟨q, _⟩ := h.map h0
  refine ⟨h.act, h.size, by rw [Array.size_setIfInBounds]; exact h.lsz, h.keep, ?_, h.chg.trans hc (fun k hk1 hk2 => by subst hk2; omega), ?_, ?_, ?_⟩
  · intro j t hj hl
    rw [get_set hil] at hl
    have : j ≠ i := fun e => by rw [e] at hj; rw [show fDst i = none from hi4] at hj; cases hj
    rw [if_neg this] at hl
    exact h.slot j t hj hl
  · intro e hm hl
    rw [get_set hil, if_neg (hsl e hm _ he)] at hl
    obtain ⟨q1, q2, q3⟩ := h.fresh e hm hl
    exact ⟨q1, hc.blk q2 (q3 h0), fun _ => q3 h0⟩
  · intro _
    obtain ⟨m, _, hk, h1⟩ := hm
    refine ⟨q, _, h1, fun k => ?_⟩
    rw [smlook_put]
    unfold fLook
    by_cases e : key = k
    · subst e
      have : ∀ e ∈ fIns, (fIns.find? fun e' => e'.1 == e.1) = some e := by decide +kernel
      rw [this _ he]
      simp only [get_set hil, if_true]
    · rw [if_neg e, hk]
      unfold fLook
      cases hf : fIns.find? (fun e => e.1 == k) with
      | none => rfl
      | some e' =>
        have h3 : e'.1 = k := by have := List.find?_some hf; exact bb_iff.1 this
        have : e'.2.1 ≠ i := fun hh => by
          have h4 : ∀ e ∈ fIns, ∀ e' ∈ fIns, e.2.1 = e'.2.1 → e.1 = e'.1 := by decide +kernel
          exact e ((h4 _ he _ (List.mem_of_find?_eq_some hf) hh.symm).trans h3)
        simp only [get_set hil, if_neg this]
  · exact clo_set hil (fun j => get_set hil) h.clo hdp
/-- The classes of the operations. -/
def fMv : List (Nat × Nat) := [(3, 15), (6, 18), (11, 22), (14, 25), (19, 29), (22, 32), (25, 35), (30, 39), (33, 42), (36, 45), (41, 49), (44, 52), (47, 55), (52, 59), (55, 62), (60, 66), (63, 69), (66, 72)]
def fNc : List (Nat × Nat × Nat) := [(4, 16, 15), (7, 19, 18), (12, 23, 22), (15, 26, 25), (20, 30, 29), (23, 33, 32), (26, 36, 35), (31, 40, 39), (34, 43, 42), (37, 46, 45), (42, 50, 49), (45, 53, 52), (48, 56, 55), (53, 60, 59), (56, 63, 62), (61, 67, 66), (64, 70, 69), (67, 73, 72)]
def fFd : List (Nat × Nat × Nat × Nat) := [(5, 17, 16, 1), (8, 20, 19, 4), (13, 24, 23, 1), (16, 27, 26, 4), (21, 31, 30, 1), (24, 34, 33, 2), (27, 37, 36, 4), (32, 41, 40, 1), (35, 44, 43, 2), (38, 47, 46, 3), (43, 51, 50, 1), (46, 54, 53, 2), (49, 57, 56, 3), (54, 61, 60, 1), (57, 64, 63, 2), (62, 68, 67, 2), (65, 71, 70, 3), (68, 74, 73, 4)]
def fSd : List (Nat × Nat × List Nat × List Nat × List Nat) := [(1, 14, [], [], []), (9, 21, [5, 8], [17, 20], [1, 4]), (17, 28, [13, 16], [24, 27], [1, 4]), (28, 38, [21, 24, 27], [31, 34, 37], [1, 2, 4]), (39, 48, [32, 35, 38], [41, 44, 47], [1, 2, 3]), (50, 58, [43, 46, 49], [51, 54, 57], [1, 2, 3]), (58, 65, [54, 57], [61, 64], [1, 2]), (69, 75, [62, 65, 68], [68, 71, 74], [2, 3, 4])]
theorem fill_cases : ∀ k < 75, k = 0 ∨ (∃ e ∈ fMv, e.1 = k) ∨ (∃ e ∈ fNc, e.1 = k) ∨ (∃ e ∈ fFd, e.1 = k) ∨ (∃ e ∈ fSd, e.1 = k) ∨ (∃ e ∈ fIns, e.2.1 = k) ∨ k = 71 ∨ k = 72 ∨ k = 73 ∨ k = 74 := by
  have h : ((List.range 75).all fun k => k == 0 || fMv.any (fun e => e.1 == k) || fNc.any (fun e => e.1 == k) || fFd.any (fun e => e.1 == k) || fSd.any (fun e => e.1 == k) || fIns.any (fun e => e.2.1 == k) || k == 71 || k == 72 || k == 73 || k == 74) = true := by kernel_rfl
  intro k hk
  have := List.all_eq_true.1 h k (List.mem_range.2 hk)
  simp only [Bool.or_eq_true, beq_iff_eq, List.any_eq_true] at this
  rcases this with ((((((((h | h) | h) | h) | h) | h) | h) | h) | h) | h
  · exact .inl h
  · exact .inr (.inl h)
  · exact .inr (.inr (.inl h))
  · exact .inr (.inr (.inr (.inl h)))
  · exact .inr (.inr (.inr (.inr (.inl h))))
  · exact .inr (.inr (.inr (.inr (.inr (.inl h)))))
  · exact .inr (.inr (.inr (.inr (.inr (.inr (.inl h))))))
  · exact .inr (.inr (.inr (.inr (.inr (.inr (.inr (.inl h)))))))
  · exact .inr (.inr (.inr (.inr (.inr (.inr (.inr (.inr (.inl h))))))))
  · exact .inr (.inr (.inr (.inr (.inr (.inr (.inr (.inr (.inr h))))))))
def opAt (ops : Array Oper) (k : Nat) : Option (Option Tmp × Op × Option (Nat × Bool)) := (ops[k]?).map fun o => (o.dst, o.op, o.guard)
def depB (ops : Array Oper) (k : Nat) (ds : List Nat) : Bool := match ops[k]? with
  | some o => ds.all fun j => o.after.any fun e => e.on == j && Region.binds .any e
  | none => false
def backB (ops : Array Oper) : Bool := (List.range ops.size).all fun i => match ops[i]? with
  | some o => o.after.all fun e => decide (e.on < i)
  | none => true
theorem dep_of {ops : Array Oper} {k : Nat} {ds : List Nat} {listed : Array Bool} (h : depB ops k ds = true) (hr : k ∈ Region.ready .any ops listed) : ∀ j ∈ ds, listed.getD j false = true := by
  obtain ⟨_, o, ho, h2⟩ := mem_ready.1 hr
  unfold depB at h
  rw [ho] at h
  intro j hj
  have := List.all_eq_true.1 h j hj
  obtain ⟨e, he, h3⟩ := Array.any_eq_true'.1 this
  simp only [Bool.and_eq_true, beq_iff_eq] at h3
  rw [← h3.1]
  exact h2 e he h3.2
theorem all_listed {ops : Array Oper} {listed : Array Bool} (hb : backB ops = true) (hs : listed.size = ops.size) (hr : Region.ready .any ops listed = []) : ∀ k, k < ops.size → listed.getD k false = true := by
  intro k
  induction k using Nat.strongRecOn with
  | ind k ih =>
    intro hk
    cases hl : listed.getD k false with
    | true => rfl
    | false =>
      exfalso
      have : k ∈ Region.ready .any ops listed := by
        refine mem_ready.2 ⟨?_, ops[k], Array.getElem?_eq_getElem hk, fun e he _ => ?_⟩
        · simp only [Array.getD_eq_getD_getElem?, Array.getElem?_eq_getElem (hs ▸ hk : k < listed.size), Option.getD_some] at hl ⊢
          exact hl
        · have := List.all_eq_true.1 hb k (List.mem_range.2 hk)
          rw [Array.getElem?_eq_getElem hk] at this
          have h3 := (Array.all_eq_true'.1 this) e he
          have h4 : e.on < k := of_decide_eq_true h3
          exact ih _ h4 (by omega)
      rw [hr] at this
      cases this
theorem wpOp_at {P : Program} {ops : Array Oper} {Q : Exit → Act → World → Prop} {k : Nat} {d : Option Tmp} {op : Op} {K : Act → World → Prop} {a : Act} {w : World} (h : opAt ops k = some (d, op, none))
    (hw : ∀ o : Oper, o.dst = d → o.op = op → o.guard = none → o.wp P a w K Q) : wpOp P ops Q k K a w := by
  unfold opAt at h
  unfold wpOp
  cases ho : ops[k]? with
  | none => rw [ho] at h; cases h
  | some o =>
    rw [ho] at h
    simp only [Option.map_some, Option.some.injEq, Prod.mk.injEq] at h
    obtain ⟨h1, h2, h3⟩ := h
    simp only [Region.wanted, h3, if_true]
    exact .inl (hw o h1 h2 h3)
theorem wpOp_val {P : Program} {ops : Array Oper} {Q : Exit → Act → World → Prop} {k : Nat} {d : Option Tmp} {op : Op} {K : Act → World → Prop} {a : Act} {w w' : World} {v : Value} (h : opAt ops k = some (d, op, none))
    (hr : ∀ o : Oper, o.op = op → (execOp a.eval o).run P w = .ok (.value v) w') (hK : K (a.put d v) w') : wpOp P ops Q k K a w :=
  wpOp_at h fun o hd ho _ => by
    unfold Oper.wp
    rw [hr o ho, Oper.upon_value, hd]
    exact hK
theorem wpOp_skip {P : Program} {ops : Array Oper} {Q : Exit → Act → World → Prop} {k : Nat} {d : Option Tmp} {op : Op} {K : Act → World → Prop} {a : Act} {w w' : World} (h : opAt ops k = some (d, op, none))
    (hr : ∀ o : Oper, o.op = op → (execOp a.eval o).run P w = .ok .skip w') (hK : K (a.put d undef) w') : wpOp P ops Q k K a w :=
  wpOp_at h fun o hd ho _ => by
    unfold Oper.wp
    rw [hr o ho, Oper.upon_skip, hd]
    exact hK
theorem run_mv {P : Program} {a : Act} {w : World} {s : Nat} (o : Oper) (ho : o.op = .move (.tmp s) ∨ o.op = .assign (.tmp s)) : (execOp a.eval o).run P w = .ok (.value (a.tmps.getD s undef)) w := by
  unfold execOp
  rcases ho with ho | ho <;> rw [ho] <;> rfl
theorem run_nc {P : Program} {a : Act} {w : World} {s : Nat} {p : Addr} (hv : a.tmps.getD s undef = .pointer (some p)) (o : Oper) (ho : o.op = .nilCheck (.tmp s)) : (execOp a.eval o).run P w = .ok (.value (.pointer (some p))) w := by
  have h : a.eval (.tmp s) = .pointer (some p) := hv
  unfold execOp
  rw [ho]
  simp only [h]
  rfl
theorem run_fa {a : Act} {w : World} {s b : Nat} {f : Nat} (hf : f < 5) (hv : a.tmps.getD s undef = .pointer (some ⟨b, 0, none⟩)) (o : Oper) (ho : o.op = .fieldAddr 24 (.tmp s) f) : (execOp a.eval o).run Tryz.prog w = .ok (.value (.pointer (some ⟨b, f, none⟩))) w := by
  unfold execOp
  rw [ho]
  show Sem.run _ (do let x ← Instr.fieldAt 24 (a.tmps.getD s undef) f; pure (Next.value x)) w = _
  rw [hv]
  have : f = 0 ∨ f = 1 ∨ f = 2 ∨ f = 3 ∨ f = 4 := by omega
  rcases this with rfl | rfl | rfl | rfl | rfl <;> go_simp

theorem fMv_at {ops : Array Oper} (h : IsFill ops) : ∀ e ∈ fMv, opAt ops e.1 = some (some e.2, .move (.tmp 0), none) := by
  rw [fill_ops h]
  intro e he
  simp only [fMv, List.mem_cons, List.not_mem_nil, or_false] at he
  rcases he with rfl | rfl | rfl | rfl | rfl | rfl | rfl | rfl | rfl | rfl | rfl | rfl | rfl | rfl | rfl | rfl | rfl | rfl
  all_goals kernel_rfl
theorem fNc_at {ops : Array Oper} (h : IsFill ops) : ∀ e ∈ fNc, opAt ops e.1 = some (some e.2.1, .nilCheck (.tmp e.2.2), none) ∧ depB ops e.1 [e.1 - 1] = true := by
  rw [fill_ops h]
  intro e he
  simp only [fNc, List.mem_cons, List.not_mem_nil, or_false] at he
  rcases he with rfl | rfl | rfl | rfl | rfl | rfl | rfl | rfl | rfl | rfl | rfl | rfl | rfl | rfl | rfl | rfl | rfl | rfl
  all_goals exact ⟨by kernel_rfl, by kernel_rfl⟩
theorem fFd_at {ops : Array Oper} (h : IsFill ops) : ∀ e ∈ fFd, opAt ops e.1 = some (some e.2.1, .fieldAddr 24 (.tmp e.2.2.1) e.2.2.2, none) ∧ depB ops e.1 [e.1 - 1] = true := by
  rw [fill_ops h]
  intro e he
  simp only [fFd, List.mem_cons, List.not_mem_nil, or_false] at he
  rcases he with rfl | rfl | rfl | rfl | rfl | rfl | rfl | rfl | rfl | rfl | rfl | rfl | rfl | rfl | rfl | rfl | rfl | rfl
  all_goals exact ⟨by kernel_rfl, by kernel_rfl⟩
def numb : Nat → List Nat → List (Nat × Operand)
  | _, [] => []
  | k, s :: l => (k, .tmp s) :: numb (k + 1) l
theorem fSd_at {ops : Array Oper} (h : IsFill ops) : ∀ e ∈ fSd, opAt ops e.1 = some (some e.2.1, .buildSlice 102 e.2.2.2.1.length (numb 0 e.2.2.2.1).toArray, none) ∧ depB ops e.1 e.2.2.1 = true := by
  rw [fill_ops h]
  intro e he
  simp only [fSd, List.mem_cons, List.not_mem_nil, or_false] at he
  rcases he with rfl | rfl | rfl | rfl | rfl | rfl | rfl | rfl
  all_goals exact ⟨by kernel_rfl, by kernel_rfl⟩
theorem fIns_at {ops : Array Oper} (h : IsFill ops) : ∀ e ∈ fIns, opAt ops e.2.1 = some (none, .insert 104 (.tmp 13) (.const (.string e.1)) (.tmp e.2.2), none) ∧ depB ops e.2.1 [0, e.2.1 - 1] = true := by
  rw [fill_ops h]
  intro e he
  simp only [fIns, List.mem_cons, List.not_mem_nil, or_false] at he
  rcases he with rfl | rfl | rfl | rfl | rfl | rfl | rfl | rfl
  all_goals exact ⟨by kernel_rfl, by kernel_rfl⟩
theorem fEnd_at {ops : Array Oper} (h : IsFill ops) : opAt ops 0 = some (some 13, .makeMap 104 none, none) ∧ opAt ops 71 = some (some 76, .move (.tmp 13), none) ∧ depB ops 71 (List.range 71) = true ∧ opAt ops 72 = some (some 77, .move (.tmp 1), none) ∧
    opAt ops 73 = some (some 78, .lookup 104 (.tmp 76) (.tmp 77) false, none) ∧ depB ops 73 [71, 72] = true ∧ opAt ops 74 = some (some 7, .assign (.tmp 78), none) ∧ depB ops 74 [73] = true ∧ backB ops = true := by
  rw [fill_ops h]
  exact ⟨by kernel_rfl, by kernel_rfl, by kernel_rfl, by kernel_rfl, by kernel_rfl, by kernel_rfl, by kernel_rfl, by kernel_rfl, by kernel_rfl⟩

theorem fv_mv {b : Nat} {kind : ByteArray} {B : Nat → Nat} : ∀ e ∈ fMv, fDst e.1 = some e.2 ∧ fPure e.1 = true ∧ e.1 ≠ 71 ∧ fval b kind B e.2 = .pointer (some ⟨b, 0, none⟩) := by
  intro e he
  simp only [fMv, List.mem_cons, List.not_mem_nil, or_false] at he
  rcases he with rfl | rfl | rfl | rfl | rfl | rfl | rfl | rfl | rfl | rfl | rfl | rfl | rfl | rfl | rfl | rfl | rfl | rfl
  all_goals exact ⟨rfl, rfl, by decide, rfl⟩
theorem fv_nc {b : Nat} {kind : ByteArray} {B : Nat → Nat} : ∀ e ∈ fNc, fDst e.1 = some e.2.1 ∧ fPure e.1 = true ∧ e.1 ≠ 71 ∧ fDst (e.1 - 1) = some e.2.2 ∧ fval b kind B e.2.1 = .pointer (some ⟨b, 0, none⟩) ∧ fval b kind B e.2.2 = .pointer (some ⟨b, 0, none⟩) := by
  intro e he
  simp only [fNc, List.mem_cons, List.not_mem_nil, or_false] at he
  rcases he with rfl | rfl | rfl | rfl | rfl | rfl | rfl | rfl | rfl | rfl | rfl | rfl | rfl | rfl | rfl | rfl | rfl | rfl
  all_goals exact ⟨rfl, rfl, by decide, rfl, rfl, rfl⟩
theorem fv_fd {b : Nat} {kind : ByteArray} {B : Nat → Nat} : ∀ e ∈ fFd, fDst e.1 = some e.2.1 ∧ fPure e.1 = true ∧ e.1 ≠ 71 ∧ fDst (e.1 - 1) = some e.2.2.1 ∧ e.2.2.2 < 5 ∧ fval b kind B e.2.1 = .pointer (some ⟨b, e.2.2.2, none⟩) ∧ fval b kind B e.2.2.1 = .pointer (some ⟨b, 0, none⟩) := by
  intro e he
  simp only [fFd, List.mem_cons, List.not_mem_nil, or_false] at he
  rcases he with rfl | rfl | rfl | rfl | rfl | rfl | rfl | rfl | rfl | rfl | rfl | rfl | rfl | rfl | rfl | rfl | rfl | rfl
  all_goals exact ⟨rfl, rfl, by decide, rfl, by decide, rfl, rfl⟩
/-- The slice made: its cells. -/
theorem fv_sd {b : Nat} {kind : ByteArray} {B : Nat → Nat} {a : Act} {w : World} : ∀ e ∈ fSd, (e.1, e.2.1, e.2.2.2.2) ∈ fSl ∧ fDst e.1 = some e.2.1 ∧ (∀ q ∈ fIns, q.2.2 = e.2.1 → q.2.1 = e.1 + 1) ∧ e.2.2.2.1.length = (fFs e.2.1).length ∧
    (∀ p ∈ e.2.2.2.1.zip e.2.2.2.2, ∃ j ∈ e.2.2.1, fDst j = some p.1) ∧ (∀ p ∈ e.2.2.2.1.zip e.2.2.2.2, fval b kind B p.1 = .pointer (some ⟨b, p.2, none⟩)) ∧ ((∀ p ∈ e.2.2.2.1.zip e.2.2.2.2, a.tmps.getD p.1 undef = .pointer (some ⟨b, p.2, none⟩)) → ∀ o : Oper, o.op = .buildSlice 102 e.2.2.2.1.length (numb 0 e.2.2.2.1).toArray →
      (execOp a.eval o).run Tryz.prog w = .ok (.value (.slice (some ⟨w.heap.size, 0, none⟩) (fFs e.2.1).length (fFs e.2.1).length)) (w.alloc (.cells (fCells b e.2.1) 103))) := by
  intro e he
  simp only [fSd, List.mem_cons, List.not_mem_nil, or_false] at he
  rcases he with rfl | rfl | rfl | rfl | rfl | rfl | rfl | rfl
  all_goals
    refine ⟨by decide, rfl, by decide, rfl, by decide, by simp only [List.zip_cons_cons, List.zip_nil_left, List.zip_nil_right, List.mem_cons, List.not_mem_nil, or_false, forall_eq_or_imp, forall_eq]; first | exact fun _ h => h.elim | exact ⟨rfl, rfl, rfl⟩ | exact ⟨rfl, rfl⟩, ?_⟩
    intro hd o ho
    simp only [List.zip_cons_cons, List.zip_nil_left, List.zip_nil_right, List.mem_cons, List.not_mem_nil, or_false, forall_eq_or_imp, forall_eq, numb, List.length_cons, List.length_nil] at hd ho
    unfold execOp
    rw [ho]
    dsimp only
    simp only [Act.eval, List.map_toArray, List.map_cons, List.map_nil, hd]
    go_simp
    exact ⟨rfl, rfl⟩

theorem deps_at {ops : Array Oper} (h : IsFill ops) : ∀ k < 75, depB ops k (depT k) = true := by
  rw [fill_ops h]
  have : ((List.range 75).all fun k => depB ((Tryz.f32.body.bind (regAt 1)).getD #[]) k (depT k)) = true := by kernel_rfl
  exact fun k hk => List.all_eq_true.1 this k (List.mem_range.2 hk)
theorem get_tf {listed : Array Bool} {i : Nat} (h : i < listed.size) : listed.getD i true = listed.getD i false := by
  simp only [Array.getD_eq_getD_getElem?, Array.getElem?_eq_getElem h, Option.getD_some]
theorem put_none (a : Act) (v : Value) : a.put none v = a := rfl
set_option maxRecDepth 100000 in
theorem fill_step {ops : Array Oper} (hF : IsFill ops) {a0 : Act} {w0 : World} {b : Nat} {kind : ByteArray} (h0 : a0.tmps.getD 0 undef = .pointer (some ⟨b, 0, none⟩)) (h1 : a0.tmps.getD 1 undef = .string kind) {Q : Exit → Act → World → Prop} {i : Nat} {listed : Array Bool} {a : Act} {w : World}
    (hr : i ∈ Region.ready .any ops listed) (h : ∃ B, FI a0 w0 b kind B listed a w) : wpOp Tryz.prog ops Q i (fun a' w' => ∃ B, FI a0 w0 b kind B (listed.setIfInBounds i true) a' w') a w := by
  obtain ⟨B, h⟩ := h
  obtain ⟨hn, o, ho, _⟩ := mem_ready.1 hr
  have hi : i < 75 := by rw [← fill_size hF]; exact (Array.getElem?_eq_some_iff.1 ho).1
  have hil : i < listed.size := by rw [h.lsz]; exact hi
  have hdp := dep_of (deps_at hF i hi) hr
  have hni : listed.getD i false = false := by rw [← get_tf hil]; exact hn
  rcases fill_cases i hi with rfl | ⟨e, he, rfl⟩ | ⟨e, he, rfl⟩ | ⟨e, he, rfl⟩ | ⟨e, he, rfl⟩ | ⟨e, he, rfl⟩ | rfl | rfl | rfl | rfl
  · obtain ⟨B', h'⟩ := h.mkmap hn (fun e he hl => by
      have h2 : ∀ e ∈ fIns, 0 ∈ depT e.2.1 := by decide
      rw [h.clo _ hl 0 (h2 e he)] at hni
      cases hni) (by
      cases hl : listed.getD 71 false with
      | false => rfl
      | true => rw [h.clo 71 hl 0 (by decide)] at hni; cases hni)
    refine wpOp_val (fEnd_at hF).1 (fun o ho => ?_) ⟨B', h'⟩
    unfold execOp
    rw [ho]
    rfl
  · obtain ⟨v1, v2, v3, v4⟩ := fv_mv (b := b) (kind := kind) (B := B) e he
    exact wpOp_val (fMv_at hF e he) (fun o ho => run_mv o (.inl ho)) ⟨B, h.pure v1 v2 hn (by rw [h.keep 0 (by omega), h0, v4]) hdp⟩
  · obtain ⟨v1, v2, v3, v4, v5, v6⟩ := fv_nc (b := b) (kind := kind) (B := B) e he
    obtain ⟨o1, o2⟩ := fNc_at hF e he
    exact wpOp_val o1 (fun o ho => run_nc ((h.slot _ _ v4 (dep_of o2 hr _ (List.mem_cons_self ..))).trans v6) o ho) ⟨B, h.pure v1 v2 hn v5.symm hdp⟩
  · obtain ⟨v1, v2, v3, v4, v5, v6, v7⟩ := fv_fd (b := b) (kind := kind) (B := B) e he
    obtain ⟨o1, o2⟩ := fFd_at hF e he
    exact wpOp_val o1 (fun o ho => run_fa v5 ((h.slot _ _ v4 (dep_of o2 hr _ (List.mem_cons_self ..))).trans v7) o ho) ⟨B, h.pure v1 v2 hn v6.symm hdp⟩
  · obtain ⟨v1, v2, v3, v4, v5, v6, v7⟩ := fv_sd (b := b) (kind := kind) (B := B) (a := a) (w := w) e he
    obtain ⟨o1, o2⟩ := fSd_at hF e he
    have h3 : listed.getD 71 false = false := by
      cases hl : listed.getD 71 false with
      | false => rfl
      | true =>
        have h4 : ∀ e ∈ fSd, e.1 ∈ depT 71 := by decide
        rw [h.clo 71 hl _ (h4 e he)] at hni; cases hni
    have h5 : listed.getD 73 false = false := by
      cases hl : listed.getD 73 false with
      | false => rfl
      | true => rw [h.clo 73 hl 71 (by decide)] at h3; cases h3
    have h6 : listed.getD 74 false = false := by
      cases hl : listed.getD 74 false with
      | false => rfl
      | true => rw [h.clo 74 hl 73 (by decide)] at h5; cases h5
    refine wpOp_val o1 (v7 fun p hp => ?_) (h.slice v1 v2 hn (fun q hq hs hl => ?_) hdp ⟨h5, h6⟩)
    · obtain ⟨j, hj, hs⟩ := v5 p hp
      rw [h.slot j _ hs (dep_of o2 hr j hj), v6 p hp]
    · have h7 : ∀ q ∈ fIns, q.2.1 - 1 ∈ depT q.2.1 := by decide
      have h8 := h.clo _ hl _ (h7 q hq)
      rw [v3 q hq hs, Nat.add_sub_cancel, hni] at h8
      cases h8
  · obtain ⟨o1, o2⟩ := fIns_at hF e he
    have hd := dep_of o2 hr
    have l0 := hd 0 (List.mem_cons_self ..)
    have l1 := hd (e.2.1 - 1) (List.mem_cons_of_mem _ (List.mem_cons_self ..))
    have s13 : a.tmps.getD 13 undef = .map (some (B 13)) := h.slot 0 13 rfl l0
    have hq : ∀ e ∈ fIns, fDst (e.2.1 - 1) = some e.2.2 := by decide
    have hv : ∀ e ∈ fIns, fval b kind B e.2.2 = fSlV B e.2.2 := by
      intro e he
      simp only [fIns, List.mem_cons, List.not_mem_nil, or_false] at he
      rcases he with rfl | rfl | rfl | rfl | rfl | rfl | rfl | rfl
      all_goals rfl
    have ss : a.tmps.getD e.2.2 undef = fSlV B e.2.2 := (h.slot _ _ (hq e he) l1).trans (hv e he)
    obtain ⟨q1, m, q2, q3⟩ := h.map l0
    obtain ⟨w', r1, r2, r3⟩ := Srun_mapput (P := Tryz.prog) (t := 104) (kt := 9) (e := 102) rfl rfl q2 e.1 (fSlV B e.2.2)
    refine wpOp_skip o1 (w' := w') (fun o ho => ?_) ⟨B, h.ins (key := e.1) (s := e.2.2) he hdp hn l0 ⟨m, q2, q3, r2⟩ r3⟩
    unfold execOp
    rw [ho]
    simp only [Act.eval, s13, ss, Sem.run_bind, r1]
    rfl
  · exact wpOp_val (fEnd_at hF).2.1 (fun o ho => run_mv o (.inl ho)) ⟨B, h.pure (s := 76) rfl rfl hn (h.slot 0 13 rfl (hdp 0 (by decide))) hdp⟩
  · exact wpOp_val (fEnd_at hF).2.2.2.1 (fun o ho => run_mv o (.inl ho)) ⟨B, h.pure (s := 77) rfl rfl hn ((h.keep 1 (by omega)).trans h1) hdp⟩
  · have s76 : a.tmps.getD 76 undef = .map (some (B 13)) := h.slot 71 76 rfl (hdp 71 (by decide))
    have s77 : a.tmps.getD 77 undef = .string kind := h.slot 72 77 rfl (hdp 72 (by decide))
    obtain ⟨q1, m, q2, q3⟩ := h.map (h.clo 71 (hdp 71 (by decide)) 0 (by decide))
    refine wpOp_val (fEnd_at hF).2.2.2.2.1 (v := fRes B kind) (w' := w) (fun o ho => ?_) ⟨B, h.pure (s := 78) rfl rfl hn rfl hdp⟩
    have hlk := Srun_look1 (P := Tryz.prog) (t := 104) (kt := 9) (e := 102) (z := .slice none 0 0) rfl rfl rfl rfl q2 kind
    unfold execOp
    rw [ho]
    simp only [Act.eval, s76, s77, Sem.run_bind, hlk]
    have hall : ∀ e ∈ fIns, listed.getD e.2.1 false = true := fun e he => h.clo 71 (hdp 71 (by decide)) _ ((by decide : ∀ e ∈ fIns, e.2.1 ∈ depT 71) e he)
    have hres : (smlook m kind).getD (.slice none 0 0) = fRes B kind := by
      rw [q3]
      unfold fLook fRes
      cases hf : fIns.find? (fun e => e.1 == kind) with
      | none => rfl
      | some e => simp only [hall e (List.mem_of_find?_eq_some hf), if_true, Option.map_some, Option.getD_some]
    rw [← hres]
    rfl
  · exact wpOp_val (fEnd_at hF).2.2.2.2.2.2.1 (fun o ho => run_mv o (.inr ho)) ⟨B, h.pure (s := 7) rfl rfl hn (h.slot 73 78 rfl (hdp 73 (by decide))) hdp⟩

theorem fill_region {ops : Array Oper} (hF : IsFill ops) {a0 : Act} {w0 : World} {b : Nat} {kind : ByteArray} (hs : a0.tmps.size = 111) (h0 : a0.tmps.getD 0 undef = .pointer (some ⟨b, 0, none⟩)) (h1 : a0.tmps.getD 1 undef = .string kind) {Q : Exit → Act → World → Prop}
    (hQ : ∀ (a : Act) (w : World) (B : Nat → Nat), a.defers = a0.defers → a.tmps.size = 111 → (∀ s, s < 7 → a.tmps.getD s undef = a0.tmps.getD s undef) → a.tmps.getD 7 undef = fRes B kind → Chg NoB w0 w →
      (∀ e ∈ fSl, w0.heap.size ≤ B e.2.1 ∧ Blk w (B e.2.1) (fCells b e.2.1) 103) → Q .normal a w) : (Code.region 1 ops true).wp Tryz.prog Q a0 w0 := by
  refine wp_region_inv (by rfl) (fun listed a w => ∃ B, FI a0 w0 b kind B listed a w) ⟨fun _ => 0, ⟨rfl, hs, by rw [Array.size_replicate]; exact fill_size hF, fun _ _ => rfl, ?_, (Chg.refl NoB w0).drew, ?_, ?_, ?_⟩⟩ (fun i listed a w hr h => fill_step hF h0 h1 hr h) ?_
  all_goals try
    have hno : ∀ j, (Array.replicate ops.size false).getD j false = false := fun j => by
      simp only [Array.getD_eq_getD_getElem?, Array.getElem?_replicate]
      split <;> rfl
  · intro i s _ hl; rw [hno] at hl; cases hl
  · intro e _ hl; rw [hno] at hl; cases hl
  · intro hl; rw [hno] at hl; cases hl
  · intro k hl; rw [hno] at hl; cases hl
  · rintro listed a w hr ⟨B, h⟩
    have hall := all_listed (fEnd_at hF).2.2.2.2.2.2.2.2 (by rw [h.lsz, fill_size hF]) hr
    rw [fill_size hF] at hall
    refine hQ a w B h.act h.size h.keep (h.slot 74 7 rfl (hall 74 (by omega))) h.chg fun e he => ?_
    obtain ⟨q1, q2, _⟩ := h.fresh e he (hall _ ((by decide : ∀ e ∈ fSl, e.1 < 75) e he))
    exact ⟨q1, q2⟩
set_option maxRecDepth 100000 in
theorem arr_111 {t : Array Value} (h : t.size = 111) : ∃ f : Nat → Value, t = #[f 0, f 1, f 2, f 3, f 4, f 5, f 6, f 7, f 8, f 9, f 10, f 11, f 12, f 13, f 14, f 15, f 16, f 17, f 18, f 19, f 20, f 21, f 22, f 23, f 24, f 25, f 26, f 27, f 28, f 29, f 30, f 31, f 32, f 33, f 34, f 35, f 36, f 37, f 38, f 39, f 40, f 41, f 42, f 43, f 44, f 45, f 46, f 47, f 48, f 49, f 50, f 51, f 52, f 53, f 54, f 55, f 56, f 57, f 58, f 59, f 60, f 61, f 62, f 63, f 64, f 65, f 66, f 67, f 68, f 69, f 70, f 71, f 72, f 73, f 74, f 75, f 76, f 77, f 78, f 79, f 80, f 81, f 82, f 83, f 84, f 85, f 86, f 87, f 88, f 89, f 90, f 91, f 92, f 93, f 94, f 95, f 96, f 97, f 98, f 99, f 100, f 101, f 102, f 103, f 104, f 105, f 106, f 107, f 108, f 109, f 110] ∧ ∀ i, t.getD i undef = f i := by
  refine ⟨fun i => t.getD i undef, ?_, fun i => rfl⟩
  have ht : t = ((List.range t.size).map fun i => t.getD i undef).toArray := by
    apply Array.ext
    · simp
    · intro i h1 h2
      simp [Array.getD, h1]
  rw [h] at ht
  exact ht
end Go.Proofs.YtfidiiifcmmffaaGreatDoor
