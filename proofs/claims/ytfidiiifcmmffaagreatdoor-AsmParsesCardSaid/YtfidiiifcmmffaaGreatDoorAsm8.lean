/- An instruction's text, by the program. No condition. -/
import Derived.Test.YtfidiiifcmmffaaGreatDoorAsm7
set_option linter.unusedVariables false
set_option linter.unusedSimpArgs false
namespace Go.Proofs.YtfidiiifcmmffaaGreatDoor
open Go.RowKit Go.RR

theorem ba_as (a b c : ByteArray) : a ++ b ++ c = a ++ (b ++ c) := by apply ByteArray.ext; simp
theorem join_le (m : Nat) : ∀ (ws : List Bs), (∀ x ∈ ws, x.length ≤ m) → (Go.Lib.join ws [44, 32]).length ≤ ws.length * (m + 2)
  | [], _ => by simp [Go.Lib.join]
  | [x], h => by rw [Go.Lib.join_one]; have := h x (List.mem_cons_self ..); simp only [List.length_cons, List.length_nil]; omega
  | x :: y :: ys, h => by
    rw [join_sep]
    have h1 := h x (List.mem_cons_self ..)
    have h2 := join_le m (y :: ys) fun z hz => h z (List.mem_cons_of_mem _ hz)
    simp only [List.length_append, List.length_cons] at h2 ⊢
    rw [Nat.add_mul (ys.length + 1) 1, Nat.one_mul]
    omega
theorem parts_len {i : In} (h : i64I i) : ∀ p ∈ partsI i, p.length ≤ 46 := by
  have l1 := itoa_len h.2.1
  have l2 := itoa_len h.2.2.1
  have l3 := itoa_len h.2.2.2.1
  have l4 := itoa_len h.2.2.2.2
  have e : ∀ n, (regT n).length = (Go.Lib.itoa n).length + 1 := fun n => rfl
  have e2 : (plT i.im i.rs).length = (Go.Lib.itoa i.im).length + (Go.Lib.itoa i.rs).length + 3 := by unfold plT regT; simp; omega
  have b1 : (regT i.rd).length ≤ 46 := by rw [e]; omega
  have b2 : (regT i.rs).length ≤ 46 := by rw [e]; omega
  have b3 : (regT i.rt).length ≤ 46 := by rw [e]; omega
  have b4 : (Go.Lib.itoa i.im).length ≤ 46 := by omega
  have b5 : (plT i.im i.rs).length ≤ 46 := by omega
  intro p hp
  unfold partsI at hp
  split at hp <;> simp only [List.mem_cons, List.not_mem_nil, or_false] at hp <;> first
    | (rcases hp with rfl | rfl | rfl <;> assumption)
    | (rcases hp with rfl | rfl <;> assumption)
theorem parts_cnt (i : In) : (partsI i).length ≤ 3 := by unfold partsI; split <;> simp
theorem name_len (o : Int) : (nameI o).length ≤ 8 := by
  by_cases h : kd o = .z
  · rw [nameI_z h]; simp
  · obtain ⟨k, hk, rfl⟩ := kd_op h
    have : ∀ k < 35, (nameI (k : Nat)).length ≤ 8 := by decide +kernel
    exact this k hk
theorem mk_data (l : List Bs) : (l.map fun x => (⟨x.toArray⟩ : ByteArray)).map (·.data.toList) = l := by
  rw [List.map_map]
  conv => rhs; rw [← List.map_id l]
  exact List.map_congr_left fun x _ => rfl
set_option maxHeartbeats 4000000 in
set_option maxRecDepth 100000 in
theorem print_any (i : In) (w : World) (h : i64I i) (L : Lb w) : Calls Tryz.prog 9 #[.agg #[.int .i64 i.op, .int .i64 i.rd, .int .i64 i.rs, .int .i64 i.rt, .int .i64 i.im]] w (RetW (.string ⟨(printI i).toArray⟩) fun w' => Chg NoB w w') := by
  have HL := Lib.hid L
  have HH := Lib.hid h
  have HB := Lib.hid (Blk.new w #[.int .i64 i.op, .int .i64 i.rd, .int .i64 i.rs, .int .i64 i.rt, .int .i64 i.im] 24)
  have HC := Lib.hid ((Chg.refl NoB w).alloc (.cells #[.int .i64 i.op, .int .i64 i.rd, .int .i64 i.rs, .int .i64 i.rt, .int .i64 i.im] 24))
  have z0 := HB.out.cell' (i := 0) (v := .int .i64 i.op) rfl
  have z1 := HB.out.cell' (i := 1) (v := .int .i64 i.rd) rfl
  have z2 := HB.out.cell' (i := 2) (v := .int .i64 i.rs) rfl
  have z3 := HB.out.cell' (i := 3) (v := .int .i64 i.rt) rfl
  have z4 := HB.out.cell' (i := 4) (v := .int .i64 i.im) rfl
  have hpl := parts_len h
  have hpc := parts_cnt i
  have hjl := join_le 46 (partsI i) hpl
  have hnl := name_len i.op
  have HJ := Lib.hid (And.intro hpl (And.intro hpc hjl))
  have l1 : ¬ 9223372036854775807 < (nameI i.op).length + 1 := by omega
  have l2 : ¬ 9223372036854775807 < (nameI i.op).length + 1 + (Go.Lib.join (partsI i) [44, 32]).length := by omega
  obtain ⟨b, hb⟩ : ∃ b, rightB i = b := ⟨_, rfl⟩
  have HR := Lib.hid hb
  clear L h hpl hpc hjl hnl hb
  go_enter Tryz.func9, Tryz.ntmps9
  go_wp2_with fail
  refine (right_any i _).mono ?_
  rintro e w1 ⟨rfl, C1⟩
  have HC1 := Lib.hid (HC.out.step C1)
  have HB1 := Lib.hid (C1.blk0 HB.out)
  rw [HR.out]
  clear C1 z0 z1 z2 z3 z4
  cases b
  · have HP : Hid (printI i = []) := Lib.hid (by unfold printI; rw [HR.out]; rfl)
    go_wp2_with fail
    go_ret
    exact ⟨by rw [HP.out]; rfl, HC1.out⟩
  · have HP : Hid (printI i = textI i) := Lib.hid (by unfold printI; rw [HR.out]; rfl)
    have z0 := HB1.out.cell' (i := 0) (v := .int .i64 i.op) rfl
    have z1 := HB1.out.cell' (i := 1) (v := .int .i64 i.rd) rfl
    have z2 := HB1.out.cell' (i := 2) (v := .int .i64 i.rs) rfl
    have z3 := HB1.out.cell' (i := 3) (v := .int .i64 i.rt) rfl
    have z4 := HB1.out.cell' (i := 4) (v := .int .i64 i.im) rfl
    go_wp2_with fail
    refine (parts_any i _ HH.out (HL.out.chg0 HC1.out)).mono ?_
    rintro e w2 ⟨v2, rfl, C2, hcase⟩
    have HC2 := Lib.hid (HC1.out.step C2)
    have HB2 := Lib.hid (C2.blk0 HB1.out)
    clear C2 z0 z1 z2 z3 z4
    have z0 := HB2.out.cell' (i := 0) (v := .int .i64 i.op) rfl
    rcases hcase with ⟨hp, rfl⟩ | ⟨g, hp, rfl, hg, hcell⟩
    · have HT : Hid (textI i = nameI i.op) := Lib.hid (by unfold textI; rw [if_pos hp])
      clear hp
      go_wp2_with fail
      refine (name_any' i.op _ (HL.out.chg0 HC2.out)).mono ?_
      rintro e w3 ⟨rfl, C3⟩
      have HC3 := Lib.hid (HC2.out.step C3)
      clear C3
      go_wp2_with fail
      go_ret
      exact ⟨by rw [HP.out, HT.out]; rfl, HC3.out⟩
    · have HT : Hid (textI i = nameI i.op ++ ([32] ++ Go.Lib.join (partsI i) [44, 32])) := Lib.hid (by unfold textI; rw [if_neg hp]; rfl)
      have n0 : ((partsI i).length == 0) = false := by
        rw [beq_eq_false_iff_ne]; intro e; exact hp (List.eq_nil_of_length_eq_zero e)
      have n1 : (((partsI i).length : Int) == 0) = false := by
        rw [beq_eq_false_iff_ne]; intro e; exact hp (List.eq_nil_of_length_eq_zero (by omega))
      have HX := Lib.hid hcell
      have HN := Lib.hid hp
      have n2 : (partsI i = []) = False := eq_false hp
      have n3 : (partsI i).isEmpty = false := by cases h : partsI i with
        | nil => exact absurd h hp
        | cons a b => rfl
      clear hp hcell
      go_wp2_with fail
      refine (name_any' i.op _ (HL.out.chg0 HC2.out)).mono ?_
      rintro e w3 ⟨rfl, C3⟩
      have HC3 := Lib.hid (HC2.out.step C3)
      have HJN := Tryz.strings_Join g 0 (partsI i).length ((partsI i).map fun x => ⟨x.toArray⟩) ⟨#[44, 32]⟩ w3 (fun j x hx => by
          rw [List.getElem?_map] at hx
          cases hj : (partsI i)[j]? with
          | none => rw [hj] at hx; cases hx
          | some p =>
            rw [hj] at hx
            cases hx
            rw [Nat.zero_add]
            exact C3.cell (HX.out j p hj) id) (Nat.lt_of_lt_of_le hg C3.size) (by have := HJ.out.2.1; rw [List.length_map]; omega) (by rw [List.length_map]; exact Nat.le_refl _) (by
          rw [mk_data]
          have h1 := HJ.out.2.1
          have h2 := HJ.out.2.2
          show (Go.Lib.join (partsI i) [44, 32]).length ≤ _
          omega)
      rw [mk_data, List.length_map] at HJN
      have HJ2 := Lib.hid HJN
      clear C3 HJN
      go_wp2_with fail
      refine HJ2.out.mono ?_
      rintro e w4 ⟨rfl, hb4⟩
      have HC4 := Lib.hid (HC3.out.step (chg_of_below hb4))
      clear hb4
      go_wp2_with fail
      go_ret
      refine ⟨?_, HC4.out⟩
      rw [HP.out, HT.out, ← bs_append, ← bs_append]
      exact congrArg Ending.returned (congrArg Value.string (ba_as _ _ _))
end Go.Proofs.YtfidiiifcmmffaaGreatDoor
