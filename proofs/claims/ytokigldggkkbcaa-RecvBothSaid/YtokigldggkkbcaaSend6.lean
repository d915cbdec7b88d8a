/- The sender: DeleteFunc, Acked. -/
import Derived.Test.YtokigldggkkbcaaSend5
set_option linter.unusedVariables false
namespace Go.Proofs.Ytokigldggkkbcaa
open Go.RowKit Go.RR

theorem run_clear {P : Program} (w : World) (t e ty : TypeId) (z : Value) (ht : P.underlying t = some (.slice e)) (hv : ∀ w, (zeroValue e).run P w = .ok z w) (b o n c : Nat) (hn : 0 < n)
    (h1 : ∀ v ∈ (Builtin.zeroCells z.cells n).toList, v.oneCell' = true) (hc : ∀ j, j < n * z.cells.size → (w.cell? ⟨b, o + j, none⟩).isSome = true) (hf : ∀ j, j < n * z.cells.size → w.frozen? ⟨b, o + j, none⟩ = false) :
    (Builtin.clear_ #[t] ty #[.slice (some ⟨b, o, none⟩) n c]).run P w = .ok (.tuple #[]) (w.setCells b o (Builtin.zeroCells z.cells n).toList) := by
  have hl : (Builtin.zeroCells z.cells n).toList.length = n * z.cells.size := by simp [Builtin.zeroCells]
  have hst := run_storeCells_cells (P := P) b o (Builtin.zeroCells z.cells n).toList 0 w (by rw [hl]; simpa using hc) (by rw [hl]; simpa using hf) h1
  simp only [Nat.add_zero] at hst
  obtain ⟨m, rfl⟩ : ∃ m, n = m + 1 := ⟨n - 1, by omega⟩
  simp [Builtin.clear_, run_underlying ht, hv, hst]

theorem fl_one (n : Nat) : ∀ v ∈ (Builtin.zeroCells (Value.agg #[.int .u64 0, .slice none 0 0, .int .i64 0, .int .i64 0]).cells n).toList, v.oneCell' = true := by
  intro v hv
  simp only [Builtin.zeroCells, Array.toList_map, List.mem_map] at hv
  obtain ⟨i, -, rfl⟩ := hv
  have : i % 4 = 0 ∨ i % 4 = 1 ∨ i % 4 = 2 ∨ i % 4 = 3 := by omega
  have e : (Value.agg #[.int .u64 0, .slice none 0 0, .int .i64 0, .int .i64 0]).cells = #[.int .u64 0, .slice none 0 0, .int .i64 0, .int .i64 0] := rfl
  rw [e]
  show ((#[Value.int .u64 0, .slice none 0 0, .int .i64 0, .int .i64 0] : Array Value)[i % 4]!).oneCell' = true
  rcases this with h | h | h | h <;> rw [h] <;> rfl

abbrev FlV := Fl × Value
def pcells (ps : List FlV) : List Value := ps.flatMap fun p => fcell p.1 p.2
theorem pcells_zip : ∀ (fl : List Fl) (vs : List Value), fcells fl vs = pcells (fl.zip vs)
  | [], _ => by simp [fcells, pcells]
  | f :: fl, [] => by simp [fcells, pcells]
  | f :: fl, v :: vs => by
    have := pcells_zip fl vs
    simp only [fcells, List.zip_cons_cons, pcells, List.flatMap_cons, this]
theorem pcells_len : ∀ ps : List FlV, (pcells ps).length = ps.length * 4
  | [] => rfl
  | p :: ps => by
    have := pcells_len ps
    simp only [pcells, List.flatMap_cons, List.length_append, fcell, List.length_cons, List.length_nil] at this ⊢; omega
theorem pcells_at : ∀ (ps : List FlV) (i : Nat) (p : FlV), ps[i]? = some p →
    (pcells ps)[i * 4]? = some (.int .u64 p.1.seq) ∧ (pcells ps)[i * 4 + 1]? = some p.2 ∧ (pcells ps)[i * 4 + 2]? = some (.int .i64 p.1.due) ∧ (pcells ps)[i * 4 + 3]? = some (.int .i64 p.1.wait)
  | [], i, p, h => by simp at h
  | q :: ps, 0, p, h => by simp at h; subst h; exact ⟨rfl, rfl, rfl, rfl⟩
  | q :: ps, i + 1, p, h => by
    have := pcells_at ps i p (by simpa using h)
    rw [show (i + 1) * 4 = i * 4 + 4 by omega]
    exact this
theorem pcells_set : ∀ (ps : List FlV) (i : Nat) (p : FlV), i < ps.length → pcells (ps.set i p) = ((((pcells ps).set (i * 4) (.int .u64 p.1.seq)).set (i * 4 + 1) p.2).set (i * 4 + 2) (.int .i64 p.1.due)).set (i * 4 + 3) (.int .i64 p.1.wait)
  | [], i, p, h => by simp at h
  | q :: ps, 0, p, h => rfl
  | q :: ps, i + 1, p, h => by
    have := pcells_set ps i p (by simpa using h)
    rw [show (i + 1) * 4 = i * 4 + 4 by omega, show i * 4 + 4 + 1 = (i * 4 + 1) + 4 by omega, show i * 4 + 4 + 2 = (i * 4 + 2) + 4 by omega, show i * 4 + 4 + 3 = (i * 4 + 3) + 4 by omega]
    simp only [List.set_cons_succ, pcells, List.flatMap_cons, fcell, List.cons_append, List.nil_append] at this ⊢
    rw [this]
theorem pcells_take (ps : List FlV) (i : Nat) : pcells (ps.take i) = (pcells ps).take (i * 4) := by
  induction ps generalizing i with
  | nil => simp [pcells]
  | cons p ps ih =>
    cases i with
    | zero => simp [pcells]
    | succ i =>
      have := ih i
      rw [show (i + 1) * 4 = i * 4 + 4 by omega]
      simp only [List.take_succ_cons, pcells, List.flatMap_cons, fcell, List.cons_append, List.nil_append] at this ⊢
      rw [this]
def keepP (ack : Int) (ps : List FlV) : List FlV := ps.filter fun p => !decide (p.1.seq < ack)
theorem keepP_snoc (ack : Int) (ps : List FlV) (p : FlV) : keepP ack (ps ++ [p]) = keepP ack ps ++ if p.1.seq < ack then [] else [p] := by
  unfold keepP
  rw [List.filter_append]
  congr 1
  by_cases h : p.1.seq < ack <;> simp [h]
theorem keepP_le (ack : Int) (ps : List FlV) : (keepP ack ps).length ≤ ps.length := List.length_filter_le _ _
/-- So far: the kept ones ahead, the rest as it was. -/
def Kept (ack : Int) (ps l : List FlV) (i j : Nat) : Prop := l.length = ps.length ∧ i ≤ j ∧ j ≤ ps.length ∧ i < ps.length ∧ (keepP ack (ps.take j)).length = i ∧ l.take i = keepP ack (ps.take j) ∧ l.drop j = ps.drop j
theorem Kept.at {ack : Int} {ps l : List FlV} {i j : Nat} (h : Kept ack ps l i j) (hj : j < ps.length) : l[j]? = ps[j]? := by
  have := h.2.2.2.2.2.2
  have h2 : (l.drop j)[0]? = (ps.drop j)[0]? := by rw [this]
  simpa using h2
theorem Kept.skip {ack : Int} {ps l : List FlV} {i j : Nat} {p : FlV} (h : Kept ack ps l i j) (hp : ps[j]? = some p) (hd : p.1.seq < ack) : Kept ack ps l i (j + 1) := by
  obtain ⟨h1, h2, h3, h4, h5, h6, h7⟩ := h
  have hj := (List.getElem?_eq_some_iff.1 hp).1
  have ht : ps.take (j + 1) = ps.take j ++ [p] := by rw [List.take_add_one, hp]; rfl
  have hk : keepP ack (ps.take (j + 1)) = keepP ack (ps.take j) := by rw [ht, keepP_snoc, if_pos hd, List.append_nil]
  refine ⟨h1, by omega, by omega, h4, by rw [hk]; exact h5, by rw [hk]; exact h6, ?_⟩
  have := congrArg (List.drop 1) h7
  rwa [List.drop_drop, List.drop_drop] at this
theorem Kept.keep {ack : Int} {ps l : List FlV} {i j : Nat} {p : FlV} (h : Kept ack ps l i j) (hij : i < j) (hp : ps[j]? = some p) (hd : ¬ p.1.seq < ack) : Kept ack ps (l.set i p) (i + 1) (j + 1) := by
  obtain ⟨h1, h2, h3, h4, h5, h6, h7⟩ := h
  have hj := (List.getElem?_eq_some_iff.1 hp).1
  have ht : ps.take (j + 1) = ps.take j ++ [p] := by rw [List.take_add_one, hp]; rfl
  have hk : keepP ack (ps.take (j + 1)) = keepP ack (ps.take j) ++ [p] := by rw [ht, keepP_snoc, if_neg hd]
  refine ⟨by rw [List.length_set]; exact h1, by omega, by omega, by omega, by rw [hk, List.length_append]; simp [h5], ?_, ?_⟩
  · rw [hk, ← h6, List.take_add_one, List.getElem?_set_self (by omega)]
    rw [List.take_set_of_le (by omega)]
    rfl
  · rw [List.drop_set_of_lt (by omega)]
    have := congrArg (List.drop 1) h7
    rwa [List.drop_drop, List.drop_drop] at this
end Go.Proofs.Ytokigldggkkbcaa
