/- What is filled is what the plain reading says; the parts filled, by the program. No condition. -/
import Derived.Test.YtfidiiifcmmffaaGreatDoorAsm14
set_option linter.unusedVariables false
set_option linter.unusedSimpArgs false
namespace Go.Proofs.YtfidiiifcmmffaaGreatDoor
open Go.RowKit Go.RR
def ic (i : In) : Array Value := #[.int .i64 i.op, .int .i64 i.rd, .int .i64 i.rs, .int .i64 i.rt, .int .i64 i.im]
theorem pf_reg {f : Nat} (h : f ≠ 4) (s : Bs) : pf f s = regP s := if_neg h
theorem pf_num (s : Bs) : pf 4 s = numF s := if_pos rfl
theorem fillC_cons (f : Nat) (s : Bs) (r : List (Nat × Bs)) (c : Array Value) : fillC ((f, s) :: r) c = match pf f s with | none => none | some n => fillC r (c.setIfInBounds f (.int .i64 n)) := rfl
theorem fillC_nil (c : Array Value) : fillC [] c = some c := rfl
theorem fill_long {o : Int} {l : List Bs} (h : fillP o l ≠ none) (hL : kd o ≠ .L) (hS : kd o ≠ .S) : (fsK (kd o)).length = l.length := by
  unfold fillP at h
  split at h <;> first | (rename_i e; rw [e]; rfl) | (rename_i e _; rw [e]; rfl) | (rename_i e; exact absurd e hL) | (rename_i e; exact absurd e hS) | exact absurd rfl h | skip
theorem fillC_P (o : Int) (l : List Bs) (hL : kd o ≠ .L) (hS : kd o ≠ .S) (hz : kd o ≠ .z) : (fsK (kd o)).length = l.length → fillC ((fsK (kd o)).zip l) (ic ⟨o, 0, 0, 0, 0⟩) = (fillP o l).map ic := by
  have p1 : ∀ s, pf 1 s = regP s := fun s => rfl
  have p2 : ∀ s, pf 2 s = regP s := fun s => rfl
  have p3 : ∀ s, pf 3 s = regP s := fun s => rfl
  have p4 : ∀ s, pf 4 s = numF s := fun s => rfl
  unfold fillP
  cases hk : kd o <;> simp only [hk, ne_eq, not_true_eq_false, reduceCtorEq, not_false_eq_true] at hL hS hz
  all_goals
    rcases l with _ | ⟨a, _ | ⟨b, _ | ⟨c, _ | ⟨d, l⟩⟩⟩⟩
    all_goals
      intro hlen
      simp only [fsK, List.length_cons, List.length_nil] at hlen
      first
      | omega
      | rfl
      | (simp only [fsK, List.zip_cons_cons, List.zip_nil_left, fillC_cons, fillC_nil, p1, p2, p3, p4]
         cases regP a <;> cases numF b <;> rfl)
      | (simp only [fsK, List.zip_cons_cons, List.zip_nil_left, fillC_cons, fillC_nil, p1, p2, p3, p4]
         cases regP a <;> cases regP b <;> rfl)
      | (simp only [fsK, List.zip_cons_cons, List.zip_nil_left, fillC_cons, fillC_nil, p1, p2, p3, p4]
         cases regP a <;> cases regP b <;> cases numF c <;> rfl)
      | (simp only [fsK, List.zip_cons_cons, List.zip_nil_left, fillC_cons, fillC_nil, p1, p2, p3, p4]
         cases regP a <;> cases regP b <;> cases regP c <;> rfl)
/-- What the parts of an instruction come to. -/
def Filled (o : Int) (l : List Bs) (b : Nat) (T : TypeId) (w : World) (v : Value) (w' : World) : Prop :=
  v = .bool (fillP o l).isSome ∧ (∀ i, fillP o l = some i → Blk w' b (ic i) T) ∧ Chg (· = b) w w'
theorem fl_all (o : Int) (l : List Bs) (b c : Nat) (lp : Option Addr) (T : TypeId) (w0 w : World) (hL : kd o ≠ .L) (hS : kd o ≠ .S) (hz : kd o ≠ .z) (hl : ∀ p ∈ l, p.length ≤ 100000) (hll : l.length ≤ 100000) (L : Lb w0) (hC0 : Chg NoB w0 w) (hb0 : w0.heap.size ≤ b)
    (hb : Blk w b (ic ⟨o, 0, 0, 0, 0⟩) T) (hlp : ∀ j p, l[j]? = some p → ∃ g, lp = some ⟨g, 0, none⟩ ∧ g ≠ b ∧ g < w.heap.size ∧ w.cell? ⟨g, j, none⟩ = some (.string ⟨p.toArray⟩)) :
    Calls Tryz.prog 32 #[.pointer (some ⟨b, 0, none⟩), .string (kd o).s, .slice lp l.length c] w (RetV fun v w' => Filled o l b T w v w') := by
  refine (fill_any (kd o) l b c lp o T w0 w hl hll L hC0 hb0 hb hlp).mono ?_
  rintro e w' ⟨v, rfl, h1, rfl, h3⟩
  refine ⟨_, rfl, ?_, ?_, h1⟩
  · by_cases h : (fsK (kd o)).length = l.length
    · rw [decide_eq_true h]
      have := fillC_P o l hL hS hz h
      unfold ic at this
      rw [this]
      simp
    · rw [decide_eq_false h]
      cases hf : fillP o l with
      | none => rfl
      | some i => exact absurd (fill_long (by rw [hf]; simp) hL hS) h
  · intro i hi
    have h := fill_long (by rw [hi]; simp) hL hS
    exact h3 _ h (by have := fillC_P o l hL hS hz h; unfold ic at this; rw [this, hi]; rfl)
set_option maxHeartbeats 1000000 in
theorem moved_no (kind : ByteArray) (b m c : Nat) (lp : Option Addr) (w : World) (hm : m ≠ 2) : Calls Tryz.prog 31 #[.pointer (some ⟨b, 0, none⟩), .string kind, .slice lp m c] w (RetW (.bool false) fun w' => w' = w) := by
  have q1 : ((m : Int) != 2) = true := by rw [bne_iff_ne]; omega
  clear hm
  go_enter Tryz.func31, Tryz.ntmps31
  go_wp2_with fail
  go_ret
  exact ⟨rfl, rfl⟩
theorem mv_all (k : Bool) (o : Int) (l : List Bs) (b c : Nat) (lp : Option Addr) (T : TypeId) (w : World) (hk : kd o = if k = true then .L else .S) (hl : ∀ p ∈ l, p.length ≤ 100000) (L : Lb w)
    (hb : Blk w b (ic ⟨o, 0, 0, 0, 0⟩) T) (hlp : ∀ j p, l[j]? = some p → ∃ g, lp = some ⟨g, 0, none⟩ ∧ g ≠ b ∧ g < w.heap.size ∧ w.cell? ⟨g, j, none⟩ = some (.string ⟨p.toArray⟩)) :
    Calls Tryz.prog 31 #[.pointer (some ⟨b, 0, none⟩), .string (if k = true then ⟨#[76]⟩ else ⟨#[83]⟩), .slice lp l.length c] w (RetV fun v w' => Filled o l b T w v w') := by
  by_cases h2 : l.length = 2
  · rcases l with _ | ⟨s, _ | ⟨t, _ | ⟨d, l⟩⟩⟩ <;> simp only [List.length_cons, List.length_nil] at h2
    · omega
    · omega
    · obtain ⟨g, rfl, _, hg, h0⟩ := hlp 0 s rfl
      obtain ⟨g', e, _, _, h1⟩ := hlp 1 t rfl
      cases e
      refine (moved_two k s t b g c o 0 0 0 0 T w (hl s (by simp)) (hl t (by simp)) L hb h0 h1 hg).mono ?_
      rintro e w' ⟨v, rfl, r, n, q, rfl, h3, h4, h5, h6⟩
      refine ⟨_, rfl, ?_, ?_, h5⟩
      · unfold fillP
        rw [hk]
        cases k <;> simp only [if_true, if_false, Bool.false_eq_true]
        all_goals
          cases regP s <;> cases plP t <;> rfl
      · intro i hi
        unfold fillP at hi
        rw [hk] at hi
        have : (if k = true then #[Value.int .i64 o, .int .i64 r, .int .i64 q, .int .i64 0, .int .i64 n] else #[.int .i64 o, .int .i64 0, .int .i64 q, .int .i64 r, .int .i64 n]) = ic i := by
          cases k <;> simp only [if_true, if_false, Bool.false_eq_true] at hi ⊢
          all_goals
            cases hr : regP s with
            | none => rw [hr] at hi; cases hi
            | some x =>
              cases hp : plP t with
              | none => rw [hr, hp] at hi; cases hi
              | some y =>
                obtain ⟨y1, y2⟩ := y
                rw [hr, hp] at hi
                cases hi
                rw [h3 x hr, (h4 y1 y2 hp).1, (h4 y1 y2 hp).2]
                rfl
        rw [← this]
        exact h6
    · omega
  · refine (moved_no _ b l.length c lp w h2).mono ?_
    rintro e w' ⟨rfl, rfl⟩
    have hn : fillP o l = none := by
      unfold fillP
      rw [hk]
      rcases l with _ | ⟨s, _ | ⟨t, _ | ⟨d, l⟩⟩⟩
      · cases k <;> rfl
      · cases k <;> rfl
      · exact absurd rfl h2
      · cases k <;> rfl
    exact ⟨_, rfl, by rw [hn]; rfl, fun i hi => (by rw [hn] at hi; cases hi), Chg.refl _ _⟩
end Go.Proofs.YtfidiiifcmmffaaGreatDoor
