/- The reference's Line is the plain reading of a line. No condition. -/
import Derived.Test.YtfidiiifcmmffaaGreatDoorAsm28
import Derived.Test.YtfidiiifcmmffaaGreatDoorAsm16
set_option linter.unusedVariables false
set_option linter.unusedSimpArgs false
namespace Go.Proofs.YtfidiiifcmmffaaGreatDoor
open Go.RowKit Go.RR
theorem numA_le (s : Bs) : (numA s).2 ≤ s.length ∧ i64 (numA s).1 := by
  have hd := digs_len 6 (s.drop (stA s))
  have hv := valD_bound (dA s) _ (digs_all 6 _) rfl hd.1
  have hst : stA s ≤ 1 := by unfold stA; split <;> omega
  have h1 : stA s = 1 → 1 ≤ s.length := fun h => by
    unfold stA minusB at h
    split at h
    · rename_i h2
      simp only [decide_eq_true_eq] at h2
      cases s with
      | nil => cases h2
      | cons a r => simp
    · omega
  rw [List.length_drop] at hd
  unfold numA
  split
  · exact ⟨Nat.zero_le _, ⟨by omega, by omega⟩⟩
  · refine ⟨?_, ?_⟩
    · show stA s + (dA s).length ≤ s.length
      have : (dA s).length ≤ s.length - stA s := hd.2
      rcases Nat.eq_or_lt_of_le hst with h | h
      · have := h1 h; omega
      · omega
    · show i64 (nA s)
      unfold nA
      split <;> exact ⟨by omega, by omega⟩
theorem rowR_pre {o : Nat} {s : Bs} (h : (nameI o).isPrefixOf s = false) : rowR o s = none := by unfold rowR; rw [if_neg (by rw [h]; simp)]
theorem rowR_shape {o : Nat} {s : Bs} (h : shapeP (shapeK (kd o)) 0 ⟨o, 0, 0, 0, 0⟩ (s.drop (nameI o).length) = none) : rowR o s = none := by
  unfold rowR
  split
  · rw [h]
  · rfl
theorem rowR_some {o : Nat} {s r : Bs} {i : In} (hp : (nameI o).isPrefixOf s = true) (h : shapeP (shapeK (kd o)) 0 ⟨o, 0, 0, 0, 0⟩ (s.drop (nameI o).length) = some (i, r)) : rowR o s = if r = [] ∧ rightB i = true then some i else none := by
  unfold rowR
  rw [if_pos hp, h]
theorem find_none {s : Bs} (h : ∀ o : Nat, o < 35 → rowR o s = none) : lineP s = none := by
  rw [← lineR_eq]
  unfold lineR
  rw [List.findSome?_eq_none_iff]
  intro o ho
  exact h o (List.mem_range.1 ho)
theorem find_some {s : Bs} {o : Nat} {i : In} (ho : o < 35) (h : ∀ o' : Nat, o' < o → rowR o' s = none) (hi : rowR o s = some i) : lineP s = some i := by
  rw [← lineR_eq]
  unfold lineR
  have e : List.range 35 = List.range o ++ (o :: (List.range' (o + 1) (34 - o))) := by
    rw [List.range_eq_range', List.range_eq_range', show 35 = o + (34 - o + 1) by omega, ← List.range'_append_1, Nat.zero_add, List.range'_succ]
  rw [e, List.findSome?_append]
  have e2 : (List.range o).findSome? (fun o => rowR o s) = none := List.findSome?_eq_none_iff.2 fun x hx => h x (List.mem_range.1 hx)
  rw [e2, List.findSome?_cons, hi]
  rfl
theorem rowsL_at {o : Nat} (ho : o < 35) : rowsL[o]? = some (rowAt o) := by
  have : ∀ o : Nat, o < 35 → (rowsL[o]?).isSome = true := by decide
  unfold rowAt
  rw [if_pos (by omega), Int.toNat_natCast, List.getD_eq_getElem?_getD]
  obtain ⟨x, hx⟩ := Option.isSome_iff_exists.1 (this o ho)
  rw [hx]
  rfl
theorem rowC_at {o : Nat} (ho : o < 35) : rowCells[o * 3 + 0]? = some (.string ⟨(nameI o).toArray⟩) ∧ rowCells[o * 3 + 1]? = some (.string (kd o).s) ∧ rowCells[o * 3 + 2]? = some (.int .i64 (rowAt o).2.2) := by
  have h := rowsL_at ho
  rw [rowCells_eq]
  have g := fun q hq => flat_get (fun r : ByteArray × Kd × Int => [Value.string r.1, .string r.2.1.s, .int .i64 r.2.2]) 3 (fun _ => rfl) rowsL o (rowAt o) q h hq
  have hn : (rowAt o).1 = ⟨(nameI (o : Int)).toArray⟩ := ba_list' _
  refine ⟨(g 0 (by omega)).trans ?_, (g 1 (by omega)).trans ?_, (g 2 (by omega)).trans rfl⟩
  · rw [← hn]; rfl
  · rw [← rowAt_kd]; rfl
/-- The parts read so far: as the plain reading says, or none. -/
def Sofar (cs : Bs) (i0 : In) (R0 : Bs) (k : Nat) (ok : Bool) (i : In) (r : Bs) : Prop := (ok = true → shapeP cs 0 i0 R0 = shapeP (cs.drop k) k i r) ∧ (ok = false → shapeP cs 0 i0 R0 = none)
theorem shape_step {cs : Bs} {k : Nat} {c : UInt8} (hc : cs[k]? = some c) (i : In) (r : Bs) : shapeP (cs.drop k) k i r = match stepP c k i r with | none => none | some (j, r') => shapeP (cs.drop (k + 1)) (k + 1) j r' := by
  have hl := (List.getElem?_eq_some_iff.1 hc).1
  rw [List.drop_eq_getElem_cons hl]
  have : cs[k] = c := by rw [List.getElem?_eq_getElem hl] at hc; exact Option.some.inj hc
  rw [this]
  rfl
theorem sofar_next {cs : Bs} {i0 : In} {R0 : Bs} {k : Nat} {i : In} {r : Bs} {c : UInt8} {ok : Bool} {i' : In} {r' : Bs} (h : Sofar cs i0 R0 k true i r) (hc : cs[k]? = some c) (hy : ok = true → stepP c k i r = some (i', r')) (hn : ok = false → stepP c k i r = none) : Sofar cs i0 R0 (k + 1) ok i' r' := by
  have h1 := (h.1 rfl).trans (shape_step hc i r)
  refine ⟨fun e => ?_, fun e => ?_⟩
  · rw [h1, hy e]
  · rw [h1, hn e]
theorem sofar_none {cs : Bs} {i0 : In} {R0 : Bs} {k : Nat} {i : In} {r : Bs} {c : UInt8} (h : Sofar cs i0 R0 k true i r) (hc : cs[k]? = some c) (hn : stepP c k i r = none) : shapeP cs 0 i0 R0 = none := by
  rw [(h.1 rfl).trans (shape_step hc i r), hn]
theorem step_sep {c : UInt8} {k : Nat} {i : In} {r : Bs} (h : (sepA k).isPrefixOf r = false) : stepP c k i r = none := by unfold stepP; rw [if_neg (by rw [h]; simp)]
theorem step_num {k : Nat} {i : In} {r r1 : Bs} {n : Int} {j : Nat} (h : (sepA k).isPrefixOf r = true) (hr : r.drop (sepA k).length = r1) (hn : numA r1 = (n, j)) : (0 < j → stepP 105 k i r = some ({ i with im := n }, r1.drop j)) ∧ (¬ 0 < j → stepP 105 k i r = none) := by
  unfold stepP
  rw [if_pos h, if_pos rfl, hr, hn]
  exact ⟨fun e => if_pos e, fun e => if_neg e⟩
def setReg (c : UInt8) (i : In) (n : Int) : In := if c = 100 then { i with rd := n } else if c = 116 then { i with rt := n } else { i with rs := n }
theorem step_r {c : UInt8} (h1 : c ≠ 105) (h2 : c ≠ 109) {k : Nat} {i : In} {r r1 : Bs} {n : Int} {j : Nat} (h : (sepA k).isPrefixOf r = true) (hr : r.drop (sepA k).length = r1) (hn : numA (r1.drop 1) = (n, j)) :
    (([114] : Bs).isPrefixOf r1 = false → stepP c k i r = none) ∧ (([114] : Bs).isPrefixOf r1 = true → (0 < j → stepP c k i r = some (setReg c i n, (r1.drop 1).drop j)) ∧ (¬ 0 < j → stepP c k i r = none)) := by
  unfold stepP
  rw [if_pos h, if_neg h1, if_neg h2, hr, hn]
  refine ⟨fun e => if_neg (fun hh => by rw [e] at hh; exact absurd hh.1 (by simp)), fun e => ⟨fun hj => ?_, fun hj => if_neg (fun hh => hj hh.2)⟩⟩
  rw [if_pos ⟨e, hj⟩]
  rfl
theorem step_pl {k : Nat} {i : In} {r r1 r2 : Bs} {n m : Int} {j q : Nat} (h : (sepA k).isPrefixOf r = true) (hr : r.drop (sepA k).length = r1) (hn : numA r1 = (n, j)) (hr2 : r1.drop j = r2) (hm : numA (r2.drop 2) = (m, q)) :
    (¬ (0 < j ∧ ([40, 114] : Bs).isPrefixOf r2 = true ∧ 0 < q ∧ ([41] : Bs).isPrefixOf ((r2.drop 2).drop q) = true) → stepP 109 k i r = none) ∧
    (0 < j ∧ ([40, 114] : Bs).isPrefixOf r2 = true ∧ 0 < q ∧ ([41] : Bs).isPrefixOf ((r2.drop 2).drop q) = true → stepP 109 k i r = some ({ i with im := n, rs := m }, ((r2.drop 2).drop q).drop 1)) := by
  unfold stepP
  rw [if_pos h, if_neg (by decide), if_pos rfl, hr, hn]
  simp only
  rw [hr2, hm]
  simp only
  constructor
  · intro hno
    by_cases a : 0 < j ∧ ([40, 114] : Bs).isPrefixOf r2 = true
    · rw [if_pos a, if_neg (fun b => hno ⟨a.1, a.2, b.1, b.2⟩)]
    · rw [if_neg a]
  · rintro ⟨a, b, c, d⟩
    rw [if_pos ⟨a, b⟩, if_pos ⟨c, d⟩]
theorem pre2 (a b : UInt8) (r : Bs) : ([a, b] : Bs).isPrefixOf r = (([a] : Bs).isPrefixOf r && ([b] : Bs).isPrefixOf (r.drop 1)) := by
  cases r with
  | nil => rfl
  | cons x r => cases r with
    | nil => simp [List.isPrefixOf]
    | cons y r => simp [List.isPrefixOf]
theorem eatF_no {s p : Bs} (h : p.isPrefixOf s = false) : eatF s p = 0 := by unfold eatF; rw [h]; rfl
theorem eatF_yes {s p : Bs} (h : p.isPrefixOf s = true) : eatF s p = p.length := by unfold eatF; rw [if_pos h]
theorem pre_len {s p : Bs} (h : p.isPrefixOf s = true) : p.length ≤ s.length := (List.isPrefixOf_iff_prefix.1 h).length_le
end Go.Proofs.YtfidiiifcmmffaaGreatDoor
