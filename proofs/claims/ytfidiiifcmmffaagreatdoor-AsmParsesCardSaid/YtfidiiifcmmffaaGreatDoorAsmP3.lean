/- A text is an instruction where it is the text of one that is right: plain. No condition. -/
import Derived.Test.YtfidiiifcmmffaaGreatDoorAsmP2
set_option linter.unusedVariables false
set_option linter.unusedSimpArgs false
namespace Go.Proofs.YtfidiiifcmmffaaGreatDoor
open Go.Lib

structure RightI (i : In) : Prop where
  kd : kd i.op ≠ .z
  im : -2048 ≤ i.im ∧ i.im ≤ 2047
  rd : 0 ≤ i.rd ∧ i.rd ≤ 15
  rs : 0 ≤ i.rs ∧ i.rs ≤ 15
  rt : 0 ≤ i.rt ∧ i.rt ≤ 15
  nd : (Go.Proofs.YtfidiiifcmmffaaGreatDoor.kd i.op).d = false → i.rd = 0
  ns : (Go.Proofs.YtfidiiifcmmffaaGreatDoor.kd i.op).q = false → i.rs = 0
  nt : (Go.Proofs.YtfidiiifcmmffaaGreatDoor.kd i.op).t = false → i.rt = 0
  ni : (Go.Proofs.YtfidiiifcmmffaaGreatDoor.kd i.op).i = false → i.im = 0
theorem right_fields {i : In} (h : rightB i = true) : RightI i := by
  unfold rightB okr at h
  simp only [Bool.and_eq_true, Bool.or_eq_true, decide_eq_true_eq, Bool.not_eq_true', decide_eq_false_iff_not] at h
  obtain ⟨⟨⟨⟨⟨⟨h1, h2⟩, h3⟩, h4⟩, h5⟩, h6⟩, h7⟩ := h
  refine ⟨h1, ⟨h2, h3⟩, ⟨h4.1.2, h4.2⟩, ⟨h5.1.2, h5.2⟩, ⟨h6.1.2, h6.2⟩, fun e => ?_, fun e => ?_, fun e => ?_, fun e => ?_⟩
  · rcases h4.1.1 with h | h
    · exact h
    · rw [e] at h; cases h
  · rcases h5.1.1 with h | h
    · exact h
    · rw [e] at h; cases h
  · rcases h6.1.1 with h | h
    · exact h
    · rw [e] at h; cases h
  · rcases h7 with h | h
    · exact h
    · rw [e] at h; cases h
theorem i64_small {n : Int} (h : -2048 ≤ n ∧ n ≤ 2047) : i64 n := ⟨by omega, by omega⟩
theorem i64_reg {n : Int} (h : 0 ≤ n ∧ n ≤ 15) : i64 n := ⟨by omega, by omega⟩
theorem fill_parts {i : In} (h : RightI i) : fillP i.op (partsI i) = some i := by
  obtain ⟨op, rd, rs, rt, im⟩ := i
  obtain ⟨hk, him, hrd, hrs, hrt, nd, ns, nt, ni⟩ := h
  simp only at hk him hrd hrs hrt nd ns nt ni
  have r1 : regP (regT rd) = some rd := regP_iff.2 ⟨i64_reg hrd, rfl⟩
  have r2 : regP (regT rs) = some rs := regP_iff.2 ⟨i64_reg hrs, rfl⟩
  have r3 : regP (regT rt) = some rt := regP_iff.2 ⟨i64_reg hrt, rfl⟩
  have r4 : numF (itoa im) = some im := numF_iff.2 ⟨i64_small him, rfl⟩
  have r5 : plP (plT im rs) = some (im, rs) := plP_iff.2 ⟨i64_small him, i64_reg hrs, rfl⟩
  unfold fillP partsI
  simp only
  cases e : kd op <;> rw [e] at hk nd ns nt ni <;> simp only [Kd.d, Kd.q, Kd.t, Kd.i, forall_const, reduceCtorEq, false_implies] at nd ns nt ni <;>
    first
    | exact absurd rfl hk
    | simp only [r1, r2, r3, r4, r5, nd, ns, nt, ni]
theorem fill_some {o : Int} {l : List Bs} {i : In} (h : fillP o l = some i) : i.op = o ∧ partsI i = l := by
  unfold fillP at h
  unfold partsI
  split at h
  · rename_i e
    cases h
    simp only [e, and_self]
  · rename_i a b e
    split at h
    · rename_i x y hx hy
      cases h
      simp only [e, (regP_iff.1 hx).2, (numF_iff.1 hy).2, and_self]
    · cases h
  · rename_i a b e
    split at h
    · rename_i x y hx hy
      cases h
      simp only [e, (regP_iff.1 hx).2, (numF_iff.1 hy).2, and_self]
    · cases h
  · rename_i a b c e
    split at h
    · rename_i x y z hx hy hz
      cases h
      simp only [e, (regP_iff.1 hx).2, (regP_iff.1 hy).2, (numF_iff.1 hz).2, and_self]
    · cases h
  · rename_i a b c e
    split at h
    · rename_i x y z hx hy hz
      cases h
      simp only [e, (regP_iff.1 hx).2, (regP_iff.1 hy).2, (regP_iff.1 hz).2, and_self]
    · cases h
  · rename_i a b c e
    split at h
    · rename_i x y z hx hy hz
      cases h
      simp only [e, (regP_iff.1 hx).2, (regP_iff.1 hy).2, (regP_iff.1 hz).2, and_self]
    · cases h
  · rename_i a b e
    split at h
    · rename_i x y hx hy
      cases h
      simp only [e, (regP_iff.1 hx).2, (regP_iff.1 hy).2, and_self]
    · cases h
  · rename_i a b c e
    split at h
    · rename_i x y z hx hy hz
      cases h
      simp only [e, (regP_iff.1 hx).2, (regP_iff.1 hy).2, (numF_iff.1 hz).2, and_self]
    · cases h
  · rename_i a b e
    split at h
    · rename_i x n r hx hy
      cases h
      simp only [e, (regP_iff.1 hx).2, (plP_iff.1 hy).2.2, and_self]
    · cases h
  · rename_i a b e
    split at h
    · rename_i x n r hx hy
      cases h
      simp only [e, (regP_iff.1 hx).2, (plP_iff.1 hy).2.2, and_self]
    · cases h
  · cases h
theorem names_plain : ∀ k < 35, (∀ c ∈ nameI (k : Nat), c ≠ 32 ∧ c ≠ 44 ∧ c ≠ 10 ∧ c ≠ 35 ∧ c ≠ 58) ∧ nameI (k : Nat) ≠ [] ∧ opOf (nameI (k : Nat)) = some k := by decide +kernel
theorem opOf_some {s : Bs} {o : Nat} (h : opOf s = some o) : o < 35 ∧ nameI o = s := by
  unfold opOf at h
  have h1 := List.mem_of_find?_eq_some h
  have h2 := List.find?_some h
  exact ⟨List.mem_range.1 h1, of_decide_eq_true h2⟩
theorem kd_op {o : Int} (h : kd o ≠ .z) : ∃ k : Nat, k < 35 ∧ o = k := by
  by_cases h1 : o < 0
  · exact absurd (kd_neg h1) h
  · by_cases h2 : o < 35
    · exact ⟨o.toNat, by omega, by omega⟩
    · exact absurd (kd_big (by omega)) h
theorem reg_no {n : Int} {c : UInt8} (h : c.toNat ≠ 45) (h2 : c.toNat < 48 ∨ 57 < c.toNat) (h3 : c ≠ 114) : c ∉ regT n := by
  unfold regT
  rw [List.mem_cons, not_or]
  exact ⟨h3, itoa_no h h2⟩
theorem pl_no {n r : Int} {c : UInt8} (h : c.toNat ≠ 45) (h2 : c.toNat < 48 ∨ 57 < c.toNat) (h3 : c ≠ 114) (h4 : c ≠ 40) (h5 : c ≠ 41) : c ∉ plT n r := by
  unfold plT
  rw [List.mem_append, List.mem_cons, List.mem_append, List.mem_singleton]
  rintro (h6 | h6 | h6 | h6)
  · exact itoa_no h h2 h6
  · exact h4 h6
  · exact reg_no h h2 h3 h6
  · exact h5 h6
theorem parts_no {i : In} {c : UInt8} (h : c.toNat ≠ 45) (h2 : c.toNat < 48 ∨ 57 < c.toNat) (h3 : c ≠ 114) (h4 : c ≠ 40) (h5 : c ≠ 41) : ∀ p ∈ partsI i, c ∉ p := by
  intro p hp
  unfold partsI at hp
  split at hp <;> simp only [List.mem_cons, List.not_mem_nil, or_false] at hp
  · rcases hp with rfl | rfl
    · exact reg_no h h2 h3
    · exact itoa_no h h2
  · rcases hp with rfl | rfl
    · exact reg_no h h2 h3
    · exact itoa_no h h2
  · rcases hp with rfl | rfl | rfl
    · exact reg_no h h2 h3
    · exact reg_no h h2 h3
    · exact itoa_no h h2
  · rcases hp with rfl | rfl | rfl <;> exact reg_no h h2 h3
  · rcases hp with rfl | rfl | rfl <;> exact reg_no h h2 h3
  · rcases hp with rfl | rfl <;> exact reg_no h h2 h3
  · rcases hp with rfl | rfl | rfl
    · exact reg_no h h2 h3
    · exact reg_no h h2 h3
    · exact itoa_no h h2
  · rcases hp with rfl | rfl
    · exact reg_no h h2 h3
    · exact pl_no h h2 h3 h4 h5
  · rcases hp with rfl | rfl
    · exact reg_no h h2 h3
    · exact pl_no h h2 h3 h4 h5
theorem lineP_iff {s : Bs} {i : In} : lineP s = some i ↔ rightB i = true ∧ textI i = s := by
  constructor
  · intro h
    unfold lineP at h
    cases ho : opOf (nameS s) with
    | none => rw [ho] at h; cases h
    | some o =>
      rw [ho] at h
      simp only at h
      cases hf : fillP o (restS s) with
      | none => rw [hf] at h; cases h
      | some j =>
        rw [hf] at h
        simp only at h
        split at h
        · rename_i hr
          cases h
          refine ⟨hr, ?_⟩
          obtain ⟨h1, h2⟩ := fill_some hf
          obtain ⟨h3, h4⟩ := opOf_some ho
          have hs := span_eq (fun c => decide (c ≠ 32)) s
          unfold restS at h2
          cases hd : s.dropWhile fun c => decide (c ≠ 32) with
          | nil =>
            rw [hd] at h2 hs
            unfold textI
            rw [if_pos h2, h1, h4]
            rw [List.append_nil] at hs
            exact hs
          | cons c r =>
            rw [hd] at h2 hs
            simp only at h2
            have hc : c = 32 := by simpa using drop_head hd
            obtain ⟨x, xs, e⟩ := sep_ne r
            unfold textI
            rw [if_neg (by rw [h2, e]; simp), h1, h2, sep_join, h4]
            rw [hc] at hs
            exact hs
        · cases h
  · rintro ⟨hr, rfl⟩
    have hR := right_fields hr
    obtain ⟨k, hk, ek⟩ := kd_op hR.kd
    obtain ⟨n1, n2, n3⟩ := names_plain k hk
    have hname : nameS (textI i) = nameI i.op ∧ restS (textI i) = partsI i := by
      unfold nameS restS textI
      rw [ek]
      by_cases hp : partsI i = []
      · obtain ⟨e1, e2⟩ := span_all (p := fun c => decide (c ≠ 32)) (a := nameI (k : Nat)) (fun x hx => ne_dec.2 (n1 x hx).1)
        rw [if_pos hp, e1, e2, hp]
        exact ⟨rfl, rfl⟩
      · obtain ⟨e1, e2⟩ := span_at (p := fun c => decide (c ≠ 32)) (a := nameI (k : Nat)) (b := join (partsI i) [44, 32]) (c := 32) (fun x hx => ne_dec.2 (n1 x hx).1) (by decide)
        rw [if_neg hp, e1, e2]
        refine ⟨rfl, ?_⟩
        simp only
        cases hq : partsI i with
        | nil => exact absurd hq hp
        | cons x xs =>
          refine sep_of x xs fun y hy => ?_
          rw [← hq] at hy
          exact parts_no (by decide) (by decide) (by decide) (by decide) (by decide) y hy
    unfold lineP
    rw [hname.1, hname.2, ek, n3]
    simp only
    rw [← ek, fill_parts hR]
    simp only
    rw [if_pos hr]
theorem textI_inj {i j : In} (hi : rightB i = true) (hj : rightB j = true) (h : textI i = textI j) : i = j := by
  have h1 := lineP_iff.2 ⟨hi, h⟩
  have h2 := lineP_iff.2 ⟨hj, rfl⟩
  rw [h1] at h2
  exact Option.some.inj h2
end Go.Proofs.YtfidiiifcmmffaaGreatDoor
