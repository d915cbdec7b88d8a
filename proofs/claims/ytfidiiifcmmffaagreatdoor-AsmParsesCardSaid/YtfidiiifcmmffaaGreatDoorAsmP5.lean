/- The reference's reading is the program's: plain. No condition. -/
import Derived.Test.YtfidiiifcmmffaaGreatDoorAsmP4
set_option linter.unusedVariables false
set_option linter.unusedSimpArgs false
namespace Go.Proofs.YtfidiiifcmmffaaGreatDoor
open Go.Lib

/-- What may follow a number: no digit. -/
def noD (r : Bs) : Prop := ∀ c, r.head? = some c → isDig c = false
theorem noD_nil : noD [] := fun c h => by cases h
theorem noD_cons {c : UInt8} {r : Bs} (h : isDig c = false) : noD (c :: r) := fun d hd => by cases hd; exact h
theorem drop_pre (p r : Bs) : (p ++ r).drop p.length = r := List.drop_left
theorem itoa_pos (n : Int) : 0 < (itoa n).length := List.length_pos_iff.2 (itoa_ne n)
theorem go_i {k : Nat} {i : In} {n : Int} {r : Bs} (h1 : -99999 ≤ n) (h2 : n ≤ 99999) (hr : noD r) : stepP 105 k i (sepA k ++ (itoa n ++ r)) = some ({ i with im := n }, r) := by
  unfold stepP
  rw [if_pos (pre_of _ _), if_pos rfl, drop_pre, numA_full h1 h2 hr, if_pos (itoa_pos n), List.drop_left]
theorem go_reg {c : UInt8} (hc1 : c ≠ 105) (hc2 : c ≠ 109) {k : Nat} {i : In} {n : Int} {r : Bs} (h1 : -99999 ≤ n) (h2 : n ≤ 99999) (hr : noD r) :
    stepP c k i (sepA k ++ (regT n ++ r)) = some (if c = 100 then { i with rd := n } else if c = 116 then { i with rt := n } else { i with rs := n }, r) := by
  have e : (regT n ++ r).drop 1 = itoa n ++ r := rfl
  unfold stepP
  rw [if_pos (pre_of _ _), if_neg hc1, if_neg hc2, drop_pre, e, numA_full h1 h2 hr, if_pos ⟨rfl, itoa_pos n⟩, List.drop_left]
theorem go_m {k : Nat} {i : In} {n m : Int} {r : Bs} (h1 : -99999 ≤ n) (h2 : n ≤ 99999) (h3 : -99999 ≤ m) (h4 : m ≤ 99999) : stepP 109 k i (sepA k ++ (plT n m ++ r)) = some ({ i with im := n, rs := m }, r) := by
  have e : plT n m ++ r = itoa n ++ ([40, 114] ++ (itoa m ++ ([41] ++ r))) := by unfold plT regT; simp
  have e3 : List.drop 2 ([40, 114] ++ (itoa m ++ ([41] ++ r))) = itoa m ++ ([41] ++ r) := rfl
  have n1 : noD ([40, 114] ++ (itoa m ++ ([41] ++ r))) := noD_cons (by decide)
  have n2 : noD ([41] ++ r) := noD_cons (by decide)
  unfold stepP
  rw [if_pos (pre_of _ _), if_neg (by decide), if_pos rfl, drop_pre, e, numA_full h1 h2 n1]
  simp only [List.drop_left]
  rw [if_pos ⟨itoa_pos n, pre_of _ _⟩, e3, numA_full h3 h4 n2]
  simp only [List.drop_left]
  rw [if_pos ⟨itoa_pos m, pre_of _ _⟩]
  rfl
theorem noD_sep (k : Nat) (r : Bs) : noD (sepA k ++ r) := by
  unfold sepA
  split
  · exact noD_cons (by decide)
  · exact noD_cons (by decide)
theorem shape_cons (c : UInt8) (cs : Bs) (k : Nat) (i : In) (s : Bs) : shapeP (c :: cs) k i s = match stepP c k i s with | none => none | some (j, r) => shapeP cs (k + 1) j r := rfl
theorem reg_in {n : Int} (h : 0 ≤ n ∧ n ≤ 15) : -99999 ≤ n ∧ n ≤ 99999 := by omega
theorem im_in {n : Int} (h : -2048 ≤ n ∧ n ≤ 2047) : -99999 ≤ n ∧ n ≤ 99999 := by omega
/-- The text behind the name. -/
def tailT (i : In) : Bs := if partsI i = [] then [] else 32 :: join (partsI i) [44, 32]
theorem textI_tail (i : In) : textI i = nameI i.op ++ tailT i := by
  unfold textI tailT
  split
  · rw [List.append_nil]
  · rfl
theorem join2s (x y : Bs) : (32 :: join [x, y] [44, 32] : Bs) = sepA 0 ++ (x ++ (sepA 1 ++ (y ++ []))) := by
  rw [join_sep, join_one]; simp [sepA]
theorem join3s (x y z : Bs) : (32 :: join [x, y, z] [44, 32] : Bs) = sepA 0 ++ (x ++ (sepA 1 ++ (y ++ (sepA 2 ++ (z ++ []))))) := by
  rw [join_sep, join_sep, join_one]; simp [sepA]
theorem shape_full {i : In} (h : RightI i) : shapeP (shapeK (kd i.op)) 0 ⟨i.op, 0, 0, 0, 0⟩ (tailT i) = some (i, []) := by
  obtain ⟨op, rd, rs, rt, im⟩ := i
  obtain ⟨hk, him, hrd, hrs, hrt, nd, ns, nt, ni⟩ := h
  simp only at hk him hrd hrs hrt nd ns nt ni ⊢
  have b1 := reg_in hrd
  have b2 := reg_in hrs
  have b3 := reg_in hrt
  have b4 := im_in him
  unfold tailT partsI
  simp only
  cases e : kd op <;> rw [e] at hk nd ns nt ni <;> simp only [Kd.d, Kd.q, Kd.t, Kd.i, forall_const, reduceCtorEq, false_implies] at nd ns nt ni <;>
    first
    | exact absurd rfl hk
    | (simp only [if_true, shapeK, shapeP, nd, ns, nt, ni]; done)
    | (rw [if_neg (by simp), join2s]
       simp only [shapeK, shape_cons, go_reg (c := 100) (by decide) (by decide) b1.1 b1.2 (noD_sep _ _), go_reg (c := 115) (by decide) (by decide) b2.1 b2.2 noD_nil, go_reg (c := 116) (by decide) (by decide) b3.1 b3.2 (noD_sep _ _), go_i b4.1 b4.2 noD_nil, go_m b4.1 b4.2 b2.1 b2.2, shapeP, nd, ns, nt, ni, if_true, show ((116 : UInt8) = 100) = False from by decide, show ((115 : UInt8) = 100) = False from by decide, show ((115 : UInt8) = 116) = False from by decide, if_false]; done)
    | (rw [if_neg (by simp), join3s]
       simp only [shapeK, shape_cons, go_reg (c := 100) (by decide) (by decide) b1.1 b1.2 (noD_sep _ _), go_reg (c := 115) (by decide) (by decide) b2.1 b2.2 (noD_sep _ _), go_reg (c := 116) (by decide) (by decide) b3.1 b3.2 (noD_sep _ _), go_reg (c := 116) (by decide) (by decide) b3.1 b3.2 noD_nil, go_i b4.1 b4.2 noD_nil, shapeP, nd, ns, nt, ni, if_true, show ((116 : UInt8) = 100) = False from by decide, show ((115 : UInt8) = 100) = False from by decide, show ((115 : UInt8) = 116) = False from by decide, if_false])
theorem shape2 {c d : UInt8} {i j : In} {t r : Bs} (h : shapeP [c, d] 0 i t = some (j, r)) : ∃ j1 r1, stepP c 0 i t = some (j1, r1) ∧ stepP d 1 j1 r1 = some (j, r) := by
  rw [shape_cons] at h
  cases h1 : stepP c 0 i t with
  | none => rw [h1] at h; cases h
  | some x =>
    obtain ⟨j1, r1⟩ := x
    rw [h1] at h
    simp only [shape_cons] at h
    cases h2 : stepP d 1 j1 r1 with
    | none => rw [show 0 + 1 = 1 from rfl, h2] at h; cases h
    | some y =>
      obtain ⟨j2, r2⟩ := y
      rw [show 0 + 1 = 1 from rfl, h2] at h
      simp only [shapeP, Option.some.injEq, Prod.mk.injEq] at h
      exact ⟨j1, r1, rfl, by rw [h.1, h.2] at h2; exact h2⟩
theorem shape3 {c d e : UInt8} {i j : In} {t r : Bs} (h : shapeP [c, d, e] 0 i t = some (j, r)) : ∃ j1 r1 j2 r2, stepP c 0 i t = some (j1, r1) ∧ stepP d 1 j1 r1 = some (j2, r2) ∧ stepP e 2 j2 r2 = some (j, r) := by
  rw [shape_cons] at h
  cases h1 : stepP c 0 i t with
  | none => rw [h1] at h; cases h
  | some x =>
    obtain ⟨j1, r1⟩ := x
    rw [h1] at h
    simp only [shape_cons] at h
    cases h2 : stepP d 1 j1 r1 with
    | none => rw [show 0 + 1 = 1 from rfl, h2] at h; cases h
    | some y =>
      obtain ⟨j2, r2⟩ := y
      rw [show 0 + 1 = 1 from rfl, h2] at h
      simp only at h
      cases h3 : stepP e 2 j2 r2 with
      | none => rw [show 1 + 1 = 2 from rfl, h3] at h; cases h
      | some z =>
        obtain ⟨j3, r3⟩ := z
        rw [show 1 + 1 = 2 from rfl, h3] at h
        simp only [shapeP, Option.some.injEq, Prod.mk.injEq] at h
        exact ⟨j1, r1, j2, r2, rfl, h2, by rw [h.1, h.2] at h3; exact h3⟩
theorem d_ne : ((116 : UInt8) = 100) = False ∧ ((115 : UInt8) = 100) = False ∧ ((115 : UInt8) = 116) = False := by decide
theorem rowR_full {i : In} (hr : rightB i = true) : rowR i.op.toNat (textI i) = some i := by
  have hR := right_fields hr
  obtain ⟨k, hk, ek⟩ := kd_op hR.kd
  have e : ((i.op.toNat : Nat) : Int) = i.op := by omega
  unfold rowR
  rw [e, textI_tail, if_pos (pre_of _ _), drop_pre, shape_full hR]
  simp only
  rw [if_pos ⟨by simp, hr⟩]
theorem rowR_sound {o : Nat} {s : Bs} {i : In} (ho : o < 35) (h : rowR o s = some i) : rightB i = true ∧ i.op = o ∧ textI i = s := by
  unfold rowR at h
  by_cases hp : (nameI o).isPrefixOf s = true
  · rw [if_pos hp] at h
    have hs := pre_drop hp
    generalize ht : s.drop (nameI o).length = t at h hs
    cases hsh : shapeP (shapeK (kd o)) 0 ⟨o, 0, 0, 0, 0⟩ t with
    | none => rw [hsh] at h; cases h
    | some jr =>
      obtain ⟨j, r⟩ := jr
      rw [hsh] at h
      simp only at h
      by_cases hc : r = [] ∧ rightB j = true
      · rw [if_pos hc] at h
        cases h
        obtain ⟨rfl, hr⟩ := hc
        have key : i.op = o ∧ tailT i = t := by
          cases e : kd o <;> rw [e] at hsh
          · simp only [shapeK, shapeP, Option.some.injEq, Prod.mk.injEq] at hsh
            obtain ⟨rfl, rfl⟩ := hsh
            exact ⟨rfl, by unfold tailT partsI; simp only [e, if_true]⟩
          · simp only [shapeK, shapeP, Option.some.injEq, Prod.mk.injEq] at hsh
            obtain ⟨rfl, rfl⟩ := hsh
            exact ⟨rfl, by unfold tailT partsI; simp only [e, if_true]⟩
          · obtain ⟨j1, r1, h1, h2⟩ := shape2 hsh
            obtain ⟨n0, -, rfl, e0⟩ := step_reg (c := 100) (by decide) (by decide) h1
            obtain ⟨n1, -, rfl, e1⟩ := step_i h2
            refine ⟨by simp [d_ne], ?_⟩
            rw [e0, e1]
            unfold tailT partsI
            simp only [e, d_ne, if_true, if_false]
            rw [if_neg (by simp), join2s]
          · obtain ⟨j1, r1, j2, r2, h1, h2, h3⟩ := shape3 hsh
            obtain ⟨n0, -, rfl, e0⟩ := step_reg (c := 100) (by decide) (by decide) h1
            obtain ⟨n1, -, rfl, e1⟩ := step_reg (c := 115) (by decide) (by decide) h2
            obtain ⟨n2, -, rfl, e2⟩ := step_i h3
            refine ⟨by simp [d_ne], ?_⟩
            rw [e0, e1, e2]
            unfold tailT partsI
            simp only [e, d_ne, if_true, if_false]
            rw [if_neg (by simp), join3s]
          · obtain ⟨j1, r1, j2, r2, h1, h2, h3⟩ := shape3 hsh
            obtain ⟨n0, -, rfl, e0⟩ := step_reg (c := 100) (by decide) (by decide) h1
            obtain ⟨n1, -, rfl, e1⟩ := step_reg (c := 115) (by decide) (by decide) h2
            obtain ⟨n2, -, rfl, e2⟩ := step_reg (c := 116) (by decide) (by decide) h3
            refine ⟨by simp [d_ne], ?_⟩
            rw [e0, e1, e2]
            unfold tailT partsI
            simp only [e, d_ne, if_true, if_false]
            rw [if_neg (by simp), join3s]
          · obtain ⟨j1, r1, h1, h2⟩ := shape2 hsh
            obtain ⟨n0, -, rfl, e0⟩ := step_reg (c := 100) (by decide) (by decide) h1
            obtain ⟨n1, -, rfl, e1⟩ := step_reg (c := 115) (by decide) (by decide) h2
            refine ⟨by simp [d_ne], ?_⟩
            rw [e0, e1]
            unfold tailT partsI
            simp only [e, d_ne, if_true, if_false]
            rw [if_neg (by simp), join2s]
          · obtain ⟨j1, r1, j2, r2, h1, h2, h3⟩ := shape3 hsh
            obtain ⟨n0, -, rfl, e0⟩ := step_reg (c := 115) (by decide) (by decide) h1
            obtain ⟨n1, -, rfl, e1⟩ := step_reg (c := 116) (by decide) (by decide) h2
            obtain ⟨n2, -, rfl, e2⟩ := step_i h3
            refine ⟨by simp [d_ne], ?_⟩
            rw [e0, e1, e2]
            unfold tailT partsI
            simp only [e, d_ne, if_true, if_false]
            rw [if_neg (by simp), join3s]
          · obtain ⟨j1, r1, h1, h2⟩ := shape2 hsh
            obtain ⟨n0, -, rfl, e0⟩ := step_reg (c := 100) (by decide) (by decide) h1
            obtain ⟨n1, -, rfl, e1⟩ := step_i h2
            refine ⟨by simp [d_ne], ?_⟩
            rw [e0, e1]
            unfold tailT partsI
            simp only [e, d_ne, if_true, if_false]
            rw [if_neg (by simp), join2s]
          · obtain ⟨j1, r1, h1, h2⟩ := shape2 hsh
            obtain ⟨n0, -, rfl, e0⟩ := step_reg (c := 100) (by decide) (by decide) h1
            obtain ⟨n1, m1, -, -, rfl, e1⟩ := step_m h2
            refine ⟨by simp [d_ne], ?_⟩
            rw [e0, e1]
            unfold tailT partsI
            simp only [e, d_ne, if_true, if_false]
            rw [if_neg (by simp), join2s]
          · obtain ⟨j1, r1, h1, h2⟩ := shape2 hsh
            obtain ⟨n0, -, rfl, e0⟩ := step_reg (c := 116) (by decide) (by decide) h1
            obtain ⟨n1, m1, -, -, rfl, e1⟩ := step_m h2
            refine ⟨by simp [d_ne], ?_⟩
            rw [e0, e1]
            unfold tailT partsI
            simp only [e, d_ne, if_true, if_false]
            rw [if_neg (by simp), join2s]
          · obtain ⟨j1, r1, j2, r2, h1, h2, h3⟩ := shape3 hsh
            obtain ⟨n0, -, rfl, e0⟩ := step_reg (c := 100) (by decide) (by decide) h1
            obtain ⟨n1, -, rfl, e1⟩ := step_reg (c := 115) (by decide) (by decide) h2
            obtain ⟨n2, -, rfl, e2⟩ := step_reg (c := 116) (by decide) (by decide) h3
            refine ⟨by simp [d_ne], ?_⟩
            rw [e0, e1, e2]
            unfold tailT partsI
            simp only [e, d_ne, if_true, if_false]
            rw [if_neg (by simp), join3s]
        exact ⟨hr, key.1, by rw [textI_tail, key.1, key.2]; exact hs.symm⟩
      · rw [if_neg hc] at h; cases h
  · rw [if_neg hp] at h; cases h
def lineR (s : Bs) : Option In := (List.range 35).findSome? fun o => rowR o s
theorem lineR_eq (s : Bs) : lineR s = lineP s := by
  cases h : lineP s with
  | none =>
    unfold lineR
    rw [List.findSome?_eq_none_iff]
    intro o ho
    cases hr : rowR o s with
    | none => rfl
    | some i =>
      obtain ⟨h1, h2, h3⟩ := rowR_sound (List.mem_range.1 ho) hr
      rw [lineP_iff.2 ⟨h1, h3⟩] at h
      cases h
  | some i =>
    obtain ⟨h1, h2⟩ := lineP_iff.1 h
    obtain ⟨k, hk, ek⟩ := kd_op (right_fields h1).kd
    have hf := rowR_full h1
    rw [h2] at hf
    cases hl : lineR s with
    | none =>
      unfold lineR at hl
      rw [List.findSome?_eq_none_iff] at hl
      rw [hl i.op.toNat (List.mem_range.2 (by omega))] at hf
      cases hf
    | some j =>
      unfold lineR at hl
      obtain ⟨o, ho, hj⟩ := List.exists_of_findSome?_eq_some hl
      obtain ⟨h3, h4, h5⟩ := rowR_sound (List.mem_range.1 ho) hj
      rw [textI_inj h3 h1 (by rw [h5, h2])]
end Go.Proofs.YtfidiiifcmmffaaGreatDoor
