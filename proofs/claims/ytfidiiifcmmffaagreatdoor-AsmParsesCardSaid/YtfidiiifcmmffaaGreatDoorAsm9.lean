/- An instruction's text, by the reference. No condition. -/
import Derived.Test.YtfidiiifcmmffaaGreatDoorAsm8
import Derived.Test.YtfidiiifcmmffaaGreatDoorIter
set_option linter.unusedVariables false
set_option linter.unusedSimpArgs false
namespace Go.Proofs.YtfidiiifcmmffaaGreatDoor
open Go.RowKit Go.RR

theorem ba_list' (b : ByteArray) : b = ⟨b.data.toList.toArray⟩ := by cases b; rfl
theorem ba_at' (b : ByteArray) (k : Nat) (h : k < b.size) : b.data.toList[k]? = some b[k] := by
  cases b with
  | mk a =>
    cases a with
    | mk l => exact List.getElem?_eq_getElem h
theorem quietW {P : Program} {f : FuncId} {args : Array Value} {w : World} {n : Nat} {v : Value} (h : ∀ w, Calls P f args w (RetW v fun w' => w' = w)) : Calls P f args (w.drewN n) fun e w'' => e = .returned v ∧ ∃ m, w'' = w.drewN m :=
  (h (w.drewN n)).mono fun e w' ⟨he, hw⟩ => ⟨he, n, hw⟩
set_option maxHeartbeats 4000000 in
set_option maxRecDepth 100000 in
theorem shape_any (k : Kd) (w : World) : Calls Tryz.prog 23 #[.string k.s] w (RetW (.string ⟨(shapeK k).toArray⟩) fun w' => w' = w) := by
  cases k
  all_goals
    simp only [Kd.s, shapeK]
    go_enter Tryz.func23, Tryz.ntmps23
    go_wp2_with fail
    go_ret
    exact ⟨rfl, rfl⟩
def bodyT : Bs → Nat → In → Bs
  | [], _, _ => []
  | c :: cs, k, i => sepA k ++ (partT c i ++ bodyT cs (k + 1) i)
theorem bodyT_drop {cs : Bs} {k : Nat} {c : UInt8} (i : In) (h : cs[k]? = some c) : bodyT (cs.drop k) k i = sepA k ++ (partT c i ++ bodyT (cs.drop (k + 1)) (k + 1) i) := by
  obtain ⟨h1, h2⟩ := List.getElem?_eq_some_iff.1 h
  rw [List.drop_eq_getElem_cons h1, h2]
  rfl
theorem textI_body (i : In) : textI i = nameI i.op ++ bodyT (shapeK (kd i.op)) 0 i := by
  rw [textI_tail]
  congr 1
  unfold tailT partsI
  cases e : kd i.op <;> simp only [shapeK, bodyT]
  all_goals first
    | rfl
    | (rw [if_neg (by simp), join2s]; rfl)
    | (rw [if_neg (by simp), join3s]; rfl)
theorem shape_mem (k : Kd) : ∀ c ∈ shapeK k, c = 100 ∨ c = 115 ∨ c = 116 ∨ c = 105 ∨ c = 109 := by cases k <;> decide
theorem shape_len (k : Kd) : (shapeK k).length ≤ 3 := by cases k <;> decide
theorem partT_len {c : UInt8} {i : In} (h : i64I i) : (partT c i).length ≤ 46 := by
  have l1 := itoa_len h.2.1
  have l2 := itoa_len h.2.2.1
  have l3 := itoa_len h.2.2.2.1
  have l4 := itoa_len h.2.2.2.2
  unfold partT
  split
  · omega
  · split
    · unfold plT regT; simp; omega
    · split
      · unfold regT; simp; omega
      · split
        · unfold regT; simp; omega
        · unfold regT; simp; omega
set_option maxHeartbeats 8000000 in
set_option maxRecDepth 100000 in
theorem rprint_any (i : In) (w : World) (h : i64I i) : Calls Tryz.prog 10 #[.agg #[.int .i64 i.op, .int .i64 i.rd, .int .i64 i.rs, .int .i64 i.rt, .int .i64 i.im]] w (RetW (.string ⟨(printI i).toArray⟩) fun w' => Chg NoB w w') := by
  have HB := Lib.hid (Blk.new w #[.int .i64 i.op, .int .i64 i.rd, .int .i64 i.rs, .int .i64 i.rt, .int .i64 i.im] 24)
  have HC := Lib.hid ((Chg.refl NoB w).alloc (.cells #[.int .i64 i.op, .int .i64 i.rd, .int .i64 i.rs, .int .i64 i.rt, .int .i64 i.im] 24))
  have z0 := HB.out.cell' (i := 0) (v := .int .i64 i.op) rfl
  have z1 := HB.out.cell' (i := 1) (v := .int .i64 i.rd) rfl
  have z2 := HB.out.cell' (i := 2) (v := .int .i64 i.rs) rfl
  have z3 := HB.out.cell' (i := 3) (v := .int .i64 i.rt) rfl
  have z4 := HB.out.cell' (i := 4) (v := .int .i64 i.im) rfl
  obtain ⟨b, hb⟩ : ∃ b, rightB i = b := ⟨_, rfl⟩
  have HR := Lib.hid hb
  have HH := Lib.hid h
  clear h hb
  go_enter Tryz.func10, Tryz.ntmps10
  go_wp2_with fail
  refine (rright_any i _).mono ?_
  rintro e w1 ⟨rfl, C1⟩
  have HC1 := Lib.hid (HC.out.step C1)
  have HB1 := Lib.hid (C1.blk0 HB.out)
  rw [HR.out]
  clear C1 z0 z1 z2 z3 z4
  cases b
  · have HP : Hid (printI i = []) := Lib.hid (by unfold printI; rw [HR.out]; rfl)
    go_wp2_with fail
    go_ret
    exact ⟨by rw [HP.out]; rfl, HC1.out⟩
  · have HP : Hid (printI i = nameI i.op ++ bodyT (shapeK (kd i.op)) 0 i) := Lib.hid (by unfold printI; rw [HR.out, if_pos rfl, textI_body])
    have z0 := HB1.out.cell' (i := 0) (v := .int .i64 i.op) rfl
    go_wp2_with fail
    refine (of_any i.op _).mono ?_
    rintro e w2 ⟨rfl, C2⟩
    have HC2 := Lib.hid (HC1.out.step C2)
    have HB2 := Lib.hid (C2.blk0 HB1.out)
    clear C2 z0
    go_wp2_with fail
    refine (shape_any (kd i.op) _).mono ?_
    rintro e w3 ⟨rfl, hw3⟩
    subst hw3
    go_wp2_with fail
    have HBs : Hid (Blk ((w2.alloc (.cells #[.string (rowAt i.op).1, .string (kd i.op).s, .int .i64 (rowAt i.op).2.2] 28)).iter ⟨(shapeK (kd i.op)).toArray⟩ 0) w.heap.size #[.int .i64 i.op, .int .i64 i.rd, .int .i64 i.rs, .int .i64 i.rt, .int .i64 i.im] 24) := Lib.hid ((HB2.out.alloc _).alloc _)
    have HCs : Hid (Chg NoB w ((w2.alloc (.cells #[.string (rowAt i.op).1, .string (kd i.op).s, .int .i64 (rowAt i.op).2.2] 28)).iter ⟨(shapeK (kd i.op)).toArray⟩ 0)) := Lib.hid ((HC2.out.alloc _).alloc _)
    have HIs : Hid (It ((w2.alloc (.cells #[.string (rowAt i.op).1, .string (kd i.op).s, .int .i64 (rowAt i.op).2.2] 28)).iter ⟨(shapeK (kd i.op)).toArray⟩ 0) (w2.heap.size + 1) ⟨(shapeK (kd i.op)).toArray⟩ 0) := Lib.hid (by have := It.new (w2.alloc (.cells #[.string (rowAt i.op).1, .string (kd i.op).s, .int .i64 (rowAt i.op).2.2] 28)) ⟨(shapeK (kd i.op)).toArray⟩ 0; simpa using this)
    have hb2 : w.heap.size < w2.heap.size + 1 := by have := HB2.out.lt; omega
    have hsm := shape_mem (kd i.op)
    have hsl := shape_len (kd i.op)
    generalize hcs : shapeK (kd i.op) = cs at *
    have HCS := Lib.hid hcs
    have HSM := Lib.hid hsm
    have HSL := Lib.hid hsl
    clear hcs hsm hsl
    have hn0 : (rowAt i.op).1 = ⟨(nameI i.op).toArray⟩ := ba_list' _
    rw [hn0]
    have hnl := name_len i.op
    have HNL := Lib.hid hnl
    clear hn0 hnl
    go_loopg [5, 6, 7] cs.length (fun g tv _ _ wr => ∃ (k : Nat) (t : Bs), k + g = cs.length ∧ tv = .string ⟨t.toArray⟩ ∧ t.length ≤ 8 + 50 * k ∧ printI i = t ++ bodyT (cs.drop k) k i ∧ Chg NoB w wr ∧ Blk wr w.heap.size #[.int .i64 i.op, .int .i64 i.rd, .int .i64 i.rs, .int .i64 i.rt, .int .i64 i.im] 24 ∧ It wr (w2.heap.size + 1) ⟨cs.toArray⟩ k)
    case atStart => exact ⟨0, nameI i.op, by omega, rfl, by have := HNL.out; omega, HP.out, HCs.out, HBs.out, HIs.out⟩
    case round =>
      obtain ⟨k, t, hk, rfl, ht, hp, hC, hB, hI⟩ := hrel
      rename World => wr
      have HK := Lib.hid hk
      have HT := Lib.hid ht
      have HPK := Lib.hid hp
      have HCk := Lib.hid hC
      have HBk := Lib.hid hB
      have HIk := Lib.hid hI
      have hkl : k ≤ cs.length := by omega
      clear hk ht hp hC hB hI
      by_cases hlt : k < cs.length
      · obtain ⟨c, hc⟩ : ∃ c, cs[k]? = some c := ⟨cs[k], by simp [hlt]⟩
        have HBD := Lib.hid (bodyT_drop i hc)
        have hmem := HSM.out c (List.mem_of_getElem? hc)
        have hsz : k < (⟨cs.toArray⟩ : ByteArray).size := hlt
        have hv : (⟨cs.toArray⟩ : ByteArray)[k]'hsz = c := by
          have h1 := ba_at' ⟨cs.toArray⟩ k hsz
          rw [show (⟨cs.toArray⟩ : ByteArray).data.toList = cs from rfl, hc] at h1
          exact (Option.some.inj h1).symm
        have hca : c.toNat < 128 := by rcases hmem with rfl | rfl | rfl | rfl | rfl <;> decide
        have hnx : ∀ ty, (Instr.next (.pointer (some ⟨w2.heap.size + 1, 0, none⟩)) true ty).run Tryz.prog wr = .ok (.tuple #[.bool true, .int .i64 k, .int .i32 c.toNat]) (setIt wr (w2.heap.size + 1) ⟨cs.toArray⟩ (k + 1)) := fun ty => by
          have := it_next (P := Tryz.prog) ty HIk.out hsz (by rw [hv]; exact hca)
          rw [hv] at this
          exact this
        have HBn := Lib.hid (HBk.out.setIt (by omega : w.heap.size ≠ w2.heap.size + 1) ⟨cs.toArray⟩ (k + 1))
        have HCn := Lib.hid (HCk.out.setIt (b := w2.heap.size + 1) (.inr (by omega)) ⟨cs.toArray⟩ (k + 1))
        have HIn := Lib.hid (HIk.out.set (k + 1))
        have HPL : Hid (∀ c, (partT c i).length ≤ 46) := Lib.hid fun c => partT_len HH.out
        have y1 := HBn.out.cell' (i := 1) (v := .int .i64 i.rd) rfl
        have y2 := HBn.out.cell' (i := 2) (v := .int .i64 i.rs) rfl
        have y3 := HBn.out.cell' (i := 3) (v := .int .i64 i.rt) rfl
        have y4 := HBn.out.cell' (i := 4) (v := .int .i64 i.im) rfl
        have k0 : (0 : Int) ≤ k ∧ (k : Int) ≤ 3 := by have := HSL.out; omega
        have HRD := Lib.hid fun w => num_any i.rd w HH.out.2.1
        have HRS := Lib.hid fun w => num_any i.rs w HH.out.2.2.1
        have HRT := Lib.hid fun w => num_any i.rt w HH.out.2.2.2.1
        have HIM := Lib.hid fun w => num_any i.im w HH.out.2.2.2.2
        have ld := itoa_len HH.out.2.1
        have ls := itoa_len HH.out.2.2.1
        have lt' := itoa_len HH.out.2.2.2.1
        have li := itoa_len HH.out.2.2.2.2
        have ht3 : t.length ≤ 158 := by have := HT.out; have := HSL.out; omega
        clear hc hv hca
        cases hk0 : ((k : Int) == 0)
        · have HSE : Hid (sepA k = [44, 32]) := Lib.hid (by unfold sepA; rw [if_neg (by rw [beq_eq_false_iff_ne] at hk0; omega)])
          rcases hmem with rfl | rfl | rfl | rfl | rfl
          · have l1 : ¬ 9223372036854775807 < t.length + 2 := by omega
            have l2 : ¬ 9223372036854775807 < 1 + (Go.Lib.itoa i.rd).length := by omega
            have l3 : ¬ 9223372036854775807 < t.length + 2 + (1 + (Go.Lib.itoa i.rd).length) := by omega
            go_wp2_with fail
            with_reducible refine (HRD.out _).mono ?_
            rintro e w5 ⟨rfl, hw5⟩
            subst hw5
            go_wp2_with fail
            go_roundg (cs.length - (k + 1))
            case measure => have := HK.out; omega
            case rel => exact ⟨k + 1, t ++ ([44, 32] ++ partT (100) i), by have := HK.out; omega, by rw [show (t ++ ([44, 32] ++ partT 100 i) : Bs) = t ++ [44, 32] ++ ([114] ++ Go.Lib.itoa i.rd) from by rw [List.append_assoc]; rfl, ← bs_append, ← bs_append, ← bs_append], by
                have h1 := HT.out
                have h2 := HPL.out (100)
                simp only [List.length_append, List.length_cons, List.length_nil]; omega, by rw [HPK.out, HBD.out, HSE.out]; simp, HCn.out, HBn.out, HIn.out⟩
          · have l1 : ¬ 9223372036854775807 < t.length + 2 := by omega
            have l2 : ¬ 9223372036854775807 < 1 + (Go.Lib.itoa i.rs).length := by omega
            have l3 : ¬ 9223372036854775807 < t.length + 2 + (1 + (Go.Lib.itoa i.rs).length) := by omega
            go_wp2_with fail
            with_reducible refine (HRS.out _).mono ?_
            rintro e w5 ⟨rfl, hw5⟩
            subst hw5
            go_wp2_with fail
            go_roundg (cs.length - (k + 1))
            case measure => have := HK.out; omega
            case rel => exact ⟨k + 1, t ++ ([44, 32] ++ partT (115) i), by have := HK.out; omega, by rw [show (t ++ ([44, 32] ++ partT 115 i) : Bs) = t ++ [44, 32] ++ ([114] ++ Go.Lib.itoa i.rs) from by rw [List.append_assoc]; rfl, ← bs_append, ← bs_append, ← bs_append], by
                have h1 := HT.out
                have h2 := HPL.out (115)
                simp only [List.length_append, List.length_cons, List.length_nil]; omega, by rw [HPK.out, HBD.out, HSE.out]; simp, HCn.out, HBn.out, HIn.out⟩
          · have l1 : ¬ 9223372036854775807 < t.length + 2 := by omega
            have l2 : ¬ 9223372036854775807 < 1 + (Go.Lib.itoa i.rt).length := by omega
            have l3 : ¬ 9223372036854775807 < t.length + 2 + (1 + (Go.Lib.itoa i.rt).length) := by omega
            go_wp2_with fail
            with_reducible refine (HRT.out _).mono ?_
            rintro e w5 ⟨rfl, hw5⟩
            subst hw5
            go_wp2_with fail
            go_roundg (cs.length - (k + 1))
            case measure => have := HK.out; omega
            case rel => exact ⟨k + 1, t ++ ([44, 32] ++ partT (116) i), by have := HK.out; omega, by rw [show (t ++ ([44, 32] ++ partT 116 i) : Bs) = t ++ [44, 32] ++ ([114] ++ Go.Lib.itoa i.rt) from by rw [List.append_assoc]; rfl, ← bs_append, ← bs_append, ← bs_append], by
                have h1 := HT.out
                have h2 := HPL.out (116)
                simp only [List.length_append, List.length_cons, List.length_nil]; omega, by rw [HPK.out, HBD.out, HSE.out]; simp, HCn.out, HBn.out, HIn.out⟩
          · have l1 : ¬ 9223372036854775807 < t.length + 2 := by omega
            have l3 : ¬ 9223372036854775807 < t.length + 2 + (Go.Lib.itoa i.im).length := by omega
            go_wp2_with fail
            with_reducible refine (HIM.out _).mono ?_
            rintro e w5 ⟨rfl, hw5⟩
            subst hw5
            go_wp2_with fail
            go_roundg (cs.length - (k + 1))
            case measure => have := HK.out; omega
            case rel => exact ⟨k + 1, t ++ ([44, 32] ++ partT (105) i), by have := HK.out; omega, by rw [show (t ++ ([44, 32] ++ partT 105 i) : Bs) = t ++ [44, 32] ++ Go.Lib.itoa i.im from by rw [List.append_assoc]; rfl, ← bs_append, ← bs_append], by
                have h1 := HT.out
                have h2 := HPL.out (105)
                simp only [List.length_append, List.length_cons, List.length_nil]; omega, by rw [HPK.out, HBD.out, HSE.out]; simp, HCn.out, HBn.out, HIn.out⟩
          · have l1 : ¬ 9223372036854775807 < t.length + 2 := by omega
            have l2 : ¬ 9223372036854775807 < (Go.Lib.itoa i.im).length + 2 := by omega
            have l3 : ¬ 9223372036854775807 < (Go.Lib.itoa i.im).length + 2 + (Go.Lib.itoa i.rs).length := by omega
            have l4 : ¬ 9223372036854775807 < (Go.Lib.itoa i.im).length + 2 + (Go.Lib.itoa i.rs).length + 1 := by omega
            have l5 : ¬ 9223372036854775807 < t.length + 2 + ((Go.Lib.itoa i.im).length + 2 + (Go.Lib.itoa i.rs).length + 1) := by omega
            go_wp2_with fail
            go_quiet ((go_at_call 24; first | (with_reducible exact quietW HIM.out) | (with_reducible exact quietW HRS.out)))
            go_wp2_with fail
            go_roundg (cs.length - (k + 1))
            case measure => have := HK.out; omega
            case rel => exact ⟨k + 1, t ++ ([44, 32] ++ partT (109) i), by have := HK.out; omega, by rw [show (t ++ ([44, 32] ++ partT 109 i) : Bs) = t ++ [44, 32] ++ (Go.Lib.itoa i.im ++ [40, 114] ++ Go.Lib.itoa i.rs ++ [41]) from by rw [List.append_assoc]; congr 2; show plT i.im i.rs = _; unfold plT regT; simp, ← bs_append, ← bs_append, ← bs_append, ← bs_append, ← bs_append], by
                have h1 := HT.out
                have h2 := HPL.out (109)
                simp only [List.length_append, List.length_cons, List.length_nil]; omega, by rw [HPK.out, HBD.out, HSE.out]; simp, HCn.out.drewN _, HBn.out.drewN _, HIn.out.drewN _⟩
        · have HSE : Hid (sepA k = [32]) := Lib.hid (by unfold sepA; rw [if_pos (by rw [beq_iff_eq] at hk0; omega)])
          rcases hmem with rfl | rfl | rfl | rfl | rfl
          · have l1 : ¬ 9223372036854775807 < t.length + 1 := by omega
            have l2 : ¬ 9223372036854775807 < 1 + (Go.Lib.itoa i.rd).length := by omega
            have l3 : ¬ 9223372036854775807 < t.length + 1 + (1 + (Go.Lib.itoa i.rd).length) := by omega
            go_wp2_with fail
            with_reducible refine (HRD.out _).mono ?_
            rintro e w5 ⟨rfl, hw5⟩
            subst hw5
            go_wp2_with fail
            go_roundg (cs.length - (k + 1))
            case measure => have := HK.out; omega
            case rel => exact ⟨k + 1, t ++ ([32] ++ partT (100) i), by have := HK.out; omega, by rw [show (t ++ ([32] ++ partT 100 i) : Bs) = t ++ [32] ++ ([114] ++ Go.Lib.itoa i.rd) from by rw [List.append_assoc]; rfl, ← bs_append, ← bs_append, ← bs_append], by
                have h1 := HT.out
                have h2 := HPL.out (100)
                simp only [List.length_append, List.length_cons, List.length_nil]; omega, by rw [HPK.out, HBD.out, HSE.out]; simp, HCn.out, HBn.out, HIn.out⟩
          · have l1 : ¬ 9223372036854775807 < t.length + 1 := by omega
            have l2 : ¬ 9223372036854775807 < 1 + (Go.Lib.itoa i.rs).length := by omega
            have l3 : ¬ 9223372036854775807 < t.length + 1 + (1 + (Go.Lib.itoa i.rs).length) := by omega
            go_wp2_with fail
            with_reducible refine (HRS.out _).mono ?_
            rintro e w5 ⟨rfl, hw5⟩
            subst hw5
            go_wp2_with fail
            go_roundg (cs.length - (k + 1))
            case measure => have := HK.out; omega
            case rel => exact ⟨k + 1, t ++ ([32] ++ partT (115) i), by have := HK.out; omega, by rw [show (t ++ ([32] ++ partT 115 i) : Bs) = t ++ [32] ++ ([114] ++ Go.Lib.itoa i.rs) from by rw [List.append_assoc]; rfl, ← bs_append, ← bs_append, ← bs_append], by
                have h1 := HT.out
                have h2 := HPL.out (115)
                simp only [List.length_append, List.length_cons, List.length_nil]; omega, by rw [HPK.out, HBD.out, HSE.out]; simp, HCn.out, HBn.out, HIn.out⟩
          · have l1 : ¬ 9223372036854775807 < t.length + 1 := by omega
            have l2 : ¬ 9223372036854775807 < 1 + (Go.Lib.itoa i.rt).length := by omega
            have l3 : ¬ 9223372036854775807 < t.length + 1 + (1 + (Go.Lib.itoa i.rt).length) := by omega
            go_wp2_with fail
            with_reducible refine (HRT.out _).mono ?_
            rintro e w5 ⟨rfl, hw5⟩
            subst hw5
            go_wp2_with fail
            go_roundg (cs.length - (k + 1))
            case measure => have := HK.out; omega
            case rel => exact ⟨k + 1, t ++ ([32] ++ partT (116) i), by have := HK.out; omega, by rw [show (t ++ ([32] ++ partT 116 i) : Bs) = t ++ [32] ++ ([114] ++ Go.Lib.itoa i.rt) from by rw [List.append_assoc]; rfl, ← bs_append, ← bs_append, ← bs_append], by
                have h1 := HT.out
                have h2 := HPL.out (116)
                simp only [List.length_append, List.length_cons, List.length_nil]; omega, by rw [HPK.out, HBD.out, HSE.out]; simp, HCn.out, HBn.out, HIn.out⟩
          · have l1 : ¬ 9223372036854775807 < t.length + 1 := by omega
            have l3 : ¬ 9223372036854775807 < t.length + 1 + (Go.Lib.itoa i.im).length := by omega
            go_wp2_with fail
            with_reducible refine (HIM.out _).mono ?_
            rintro e w5 ⟨rfl, hw5⟩
            subst hw5
            go_wp2_with fail
            go_roundg (cs.length - (k + 1))
            case measure => have := HK.out; omega
            case rel => exact ⟨k + 1, t ++ ([32] ++ partT (105) i), by have := HK.out; omega, by rw [show (t ++ ([32] ++ partT 105 i) : Bs) = t ++ [32] ++ Go.Lib.itoa i.im from by rw [List.append_assoc]; rfl, ← bs_append, ← bs_append], by
                have h1 := HT.out
                have h2 := HPL.out (105)
                simp only [List.length_append, List.length_cons, List.length_nil]; omega, by rw [HPK.out, HBD.out, HSE.out]; simp, HCn.out, HBn.out, HIn.out⟩
          · have l1 : ¬ 9223372036854775807 < t.length + 1 := by omega
            have l2 : ¬ 9223372036854775807 < (Go.Lib.itoa i.im).length + 2 := by omega
            have l3 : ¬ 9223372036854775807 < (Go.Lib.itoa i.im).length + 2 + (Go.Lib.itoa i.rs).length := by omega
            have l4 : ¬ 9223372036854775807 < (Go.Lib.itoa i.im).length + 2 + (Go.Lib.itoa i.rs).length + 1 := by omega
            have l5 : ¬ 9223372036854775807 < t.length + 1 + ((Go.Lib.itoa i.im).length + 2 + (Go.Lib.itoa i.rs).length + 1) := by omega
            go_wp2_with fail
            go_quiet ((go_at_call 24; first | (with_reducible exact quietW HIM.out) | (with_reducible exact quietW HRS.out)))
            go_wp2_with fail
            go_roundg (cs.length - (k + 1))
            case measure => have := HK.out; omega
            case rel => exact ⟨k + 1, t ++ ([32] ++ partT (109) i), by have := HK.out; omega, by rw [show (t ++ ([32] ++ partT 109 i) : Bs) = t ++ [32] ++ (Go.Lib.itoa i.im ++ [40, 114] ++ Go.Lib.itoa i.rs ++ [41]) from by rw [List.append_assoc]; congr 2; show plT i.im i.rs = _; unfold plT regT; simp, ← bs_append, ← bs_append, ← bs_append, ← bs_append, ← bs_append], by
                have h1 := HT.out
                have h2 := HPL.out (109)
                simp only [List.length_append, List.length_cons, List.length_nil]; omega, by rw [HPK.out, HBD.out, HSE.out]; simp, HCn.out.drewN _, HBn.out.drewN _, HIn.out.drewN _⟩
      · have hnx := fun ty => it_last (P := Tryz.prog) ty HIk.out (by show ¬ k < cs.length; exact hlt)
        have HF : Hid (printI i = t) := Lib.hid (by rw [HPK.out, List.drop_eq_nil_of_le (by omega)]; simp [bodyT])
        go_wp2_with fail
        go_ret
        exact ⟨by rw [HF.out]; rfl, HCk.out⟩
end Go.Proofs.YtfidiiifcmmffaaGreatDoor
