/- AsmPrints returns true, whatever it is given. No condition. -/
import Derived.Test.YtfidiiifcmmffaaGreatDoorAsm23
import Derived.Test.YtfidiiifcmmffaaGreatDoorAsm9
set_option linter.unusedVariables false
set_option linter.unusedSimpArgs false
namespace Go.Proofs.YtfidiiifcmmffaaGreatDoor
open Go.RowKit Go.RR
theorem print_line (i : In) : lineP (printI i) = if rightB i = true then some i else none := by
  unfold printI
  by_cases h : rightB i = true
  · rw [if_pos h, if_pos h]
    exact lineP_iff.2 ⟨h, rfl⟩
  · rw [if_neg h, if_neg h]
    kernel_rfl
set_option maxHeartbeats 8000000 in
set_option maxRecDepth 100000 in
theorem asmPrints_any (i : In) (w : World) (h : i64I i) (L : Lb w) : Calls Tryz.prog 3 #[.agg #[.int .i64 i.op, .int .i64 i.rd, .int .i64 i.rs, .int .i64 i.rt, .int .i64 i.im]] w (RetW (.bool true) fun w' => Chg NoB w w') := by
  have HL := Lib.hid L
  have HH := Lib.hid h
  have HB := Lib.hid (Blk.new w #[.int .i64 i.op, .int .i64 i.rd, .int .i64 i.rs, .int .i64 i.rt, .int .i64 i.im] 24)
  have HC := Lib.hid ((Chg.refl NoB w).alloc (.cells #[.int .i64 i.op, .int .i64 i.rd, .int .i64 i.rs, .int .i64 i.rt, .int .i64 i.im] 24))
  clear L h
  go_enter Tryz.func3, Tryz.ntmps3
  go_wp2_with fail
  refine (first21_any _ (HL.out.chg0 HC.out)).mono ?_
  rintro e w1 ⟨rfl, C1⟩
  have HC1 := Lib.hid (HC.out.step C1)
  have HB1 := Lib.hid (C1.blk0 HB.out)
  clear C1
  have z0 := HB1.out.cell' (i := 0) (v := .int .i64 i.op) rfl
  have z1 := HB1.out.cell' (i := 1) (v := .int .i64 i.rd) rfl
  have z2 := HB1.out.cell' (i := 2) (v := .int .i64 i.rs) rfl
  have z3 := HB1.out.cell' (i := 3) (v := .int .i64 i.rt) rfl
  have z4 := HB1.out.cell' (i := 4) (v := .int .i64 i.im) rfl
  go_wp2_with fail
  refine (print_any i _ HH.out (HL.out.chg0 HC1.out)).mono ?_
  rintro e w2 ⟨rfl, C2⟩
  have HC2 := Lib.hid (HC1.out.step C2)
  have HB2 := Lib.hid (C2.blk0 HB1.out)
  clear C2 z0 z1 z2 z3 z4
  have z0 := HB2.out.cell' (i := 0) (v := .int .i64 i.op) rfl
  have z1 := HB2.out.cell' (i := 1) (v := .int .i64 i.rd) rfl
  have z2 := HB2.out.cell' (i := 2) (v := .int .i64 i.rs) rfl
  have z3 := HB2.out.cell' (i := 3) (v := .int .i64 i.rt) rfl
  have z4 := HB2.out.cell' (i := 4) (v := .int .i64 i.im) rfl
  have bl := bl_list (printI i)
  go_wp2_with fail
  refine (rprint_any i _ HH.out).mono ?_
  rintro e w3 ⟨rfl, C3⟩
  have HC3 := Lib.hid (HC2.out.step C3)
  have HB3 := Lib.hid (C3.blk0 HB2.out)
  clear C3 z0 z1 z2 z3 z4
  have z0 := HB3.out.cell' (i := 0) (v := .int .i64 i.op) rfl
  have z1 := HB3.out.cell' (i := 1) (v := .int .i64 i.rd) rfl
  have z2 := HB3.out.cell' (i := 2) (v := .int .i64 i.rs) rfl
  have z3 := HB3.out.cell' (i := 3) (v := .int .i64 i.rt) rfl
  have z4 := HB3.out.cell' (i := 4) (v := .int .i64 i.im) rfl
  go_wp2_with fail
  refine (of_any i.op _).mono ?_
  rintro e w4 ⟨rfl, C4⟩
  have HC4 := Lib.hid (HC3.out.step C4)
  have HB4 := Lib.hid (C4.blk0 HB3.out)
  clear C4 z0 z1 z2 z3 z4
  have hn0 : (rowAt i.op).1 = ⟨(nameI i.op).toArray⟩ := ba_list' _
  rw [hn0]
  clear hn0
  go_wp2_with fail
  have HB5 := Lib.hid (HB4.out.alloc (.cells #[.string ⟨(nameI i.op).toArray⟩, .string (kd i.op).s, .int .i64 (rowAt i.op).2.2] 28))
  have HR5 := Lib.hid (Blk.new w4 #[.string ⟨(nameI i.op).toArray⟩, .string (kd i.op).s, .int .i64 (rowAt i.op).2.2] 28)
  have HC5 := Lib.hid (HC4.out.alloc (.cells #[.string ⟨(nameI i.op).toArray⟩, .string (kd i.op).s, .int .i64 (rowAt i.op).2.2] 28))
  have HNM : Hid (∀ w' : World, Chg NoB w w' → Calls Tryz.prog 12 #[.int .i64 i.op] w' (RetW (.string ⟨(nameI i.op).toArray⟩) fun w'' => Chg NoB w' w'')) := Lib.hid fun w' c => name_any' i.op w' (HL.out.chg0 c)
  have z0 := (HB5.out.drew).cell' (i := 0) (v := .int .i64 i.op) rfl
  have r0 := (HR5.out.drew).cell' (i := 0) (v := .string ⟨(nameI i.op).toArray⟩) rfl
  have cX := HC5.out.drew
  have bn := bl_list (nameI i.op)
  obtain ⟨po, hpo⟩ : ∃ po, printI i = po := ⟨_, rfl⟩
  obtain ⟨io, hio⟩ : ∃ io, inOps i.op = io := ⟨_, rfl⟩
  have hz : io = false → po = [] := fun e => by
    rw [← hpo]
    unfold printI
    by_cases hr : rightB i = true
    · exfalso
      obtain ⟨k, hk, e2⟩ := kd_op (right_fields hr).kd
      rw [← hio, e2] at e
      unfold inOps at e
      simp at e
      omega
    · rw [if_neg hr]
  have HPO := Lib.hid hpo
  rw [hpo] at bl ⊢
  rw [hio]
  have HIO := Lib.hid hio
  clear hpo hio
  obtain ⟨rb, hrb⟩ : ∃ rb, rightB i = rb := ⟨_, rfl⟩
  have HRB := Lib.hid hrb
  have hlp : lineP po = if rb = true then some i else none := by rw [← HPO.out, print_line, hrb]
  have hlen : po.length ≤ 99999 := by
    rw [← HPO.out]
    unfold printI
    split
    · rw [textI_body]
      have h1 := name_len i.op
      have h2 : ∀ (cs : Bs) (k : Nat), cs.length ≤ 3 → (bodyT cs k i).length ≤ 48 * cs.length := by
        intro cs
        induction cs with
        | nil => intro k _; exact Nat.zero_le _
        | cons c cs ih =>
          intro k hk
          simp only [List.length_cons] at hk
          have h3 := ih (k + 1) (by omega)
          have h4 := partT_len (c := c) HH.out
          have h5 : (sepA k).length ≤ 2 := by unfold sepA; split <;> simp
          show (sepA k ++ (partT c i ++ bodyT cs (k + 1) i)).length ≤ _
          simp only [List.length_append, List.length_cons]
          omega
      have h6 := h2 (shapeK (kd i.op)) 0 (shape_len _)
      have h7 := shape_len (kd i.op)
      rw [List.length_append]
      omega
    · simp
  have HLP := Lib.hid hlp
  have HLEN := Lib.hid hlen
  clear hrb hlp hlen
  cases io
  all_goals
    try (obtain rfl := hz rfl)
    clear hz
    refine wp_region_take 5 [0, 1, 3, 4] [2] (fun w' => w'.cell? ⟨w.heap.size, 0, none⟩ = some (.int .i64 i.op) ∧ w'.cell? ⟨w4.heap.size, 0, none⟩ = some (.string ⟨(nameI i.op).toArray⟩)) (by kernel_rfl) (by kernel_rfl) (fun _ _ _ _ _ h => h) (⟨z0, r0⟩) ?_
    simp only [pickOps_nil, pickOps_cons, Option.getD_some, List.getElem?_toArray, List.getElem?_cons_zero, List.getElem?_cons_succ, List.cons_append, List.nil_append, List.drop_succ_cons, List.drop_zero]
    repeat
      refine wpTake_cons' rfl ?_
      apply Exists.intro
      refine ⟨fun wS hS => ?_, ?_⟩
      · try dsimp only at hS
        obtain ⟨z0, r0⟩ := hS
        go_simp
        try rfl
      simp only [Act.put, List.setIfInBounds_toArray, List.set_cons_zero, List.set_cons_succ]
    refine wpTake_nil ?_
    refine wpForce_cons rfl (fun K hK => ?_)
    go_simp
    refine (HNM.out _ cX).mono ?_
    rintro e wa ⟨rfl, Ca⟩
    refine hK _ _ ⟨Ca.cell z0 id, Ca.cell r0 id⟩ ?_
    refine wpForce_nil ?_
    have HCE := Lib.hid (cX.step Ca)
    have HBE := Lib.hid (Ca.blk0 HB5.out.drew)
    clear z0 r0 cX Ca hK K
    go_wp2_with fail
    refine (line_any _ _ HLEN.out (HL.out.chg0 HCE.out)).mono ?_
    rintro e wb ⟨rfl, Cb⟩
    have HCF := Lib.hid (HCE.out.step Cb)
    have HBF := Lib.hid (Cb.blk0 HBE.out)
    clear Cb
    cases rb
    · rw [lineV_none HLP.out]
      have z0 := HBF.out.cell' (i := 0) (v := .int .i64 i.op) rfl
      have z1 := HBF.out.cell' (i := 1) (v := .int .i64 i.rd) rfl
      have z2 := HBF.out.cell' (i := 2) (v := .int .i64 i.rs) rfl
      have z3 := HBF.out.cell' (i := 3) (v := .int .i64 i.rt) rfl
      have z4 := HBF.out.cell' (i := 4) (v := .int .i64 i.im) rfl
      have hbl := HBF.out.lt
      go_wp2_with fail
      refine (rright_any i _).mono ?_
      rintro e wc ⟨rfl, Cc⟩
      rw [HRB.out]
      have HCG := Lib.hid ((HCF.out.alloc _).step Cc)
      clear Cc z0 z1 z2 z3 z4 hbl
      go_wp2_with fail
      go_ret
      exact ⟨rfl, HCG.out⟩
    · rw [lineV_some (i := i) HLP.out]
      have z0 := HBF.out.cell' (i := 0) (v := .int .i64 i.op) rfl
      have z1 := HBF.out.cell' (i := 1) (v := .int .i64 i.rd) rfl
      have z2 := HBF.out.cell' (i := 2) (v := .int .i64 i.rs) rfl
      have z3 := HBF.out.cell' (i := 3) (v := .int .i64 i.rt) rfl
      have z4 := HBF.out.cell' (i := 4) (v := .int .i64 i.im) rfl
      have hbl := HBF.out.lt
      go_wp2_with fail
      refine (rright_any i _).mono ?_
      rintro e wc ⟨rfl, Cc⟩
      rw [HRB.out]
      have HCG := Lib.hid ((HCF.out.alloc (.cells (ic i) 24)).step Cc)
      have HBG := Lib.hid (Cc.blk0 (HBF.out.alloc (.cells (ic i) 24)))
      have HBH := Lib.hid (Cc.blk0 (Blk.new wb (ic i) 24))
      clear Cc z0 z1 z2 z3 z4 hbl
      have z0 := HBG.out.cell' (i := 0) (v := .int .i64 i.op) rfl
      have z1 := HBG.out.cell' (i := 1) (v := .int .i64 i.rd) rfl
      have z2 := HBG.out.cell' (i := 2) (v := .int .i64 i.rs) rfl
      have z3 := HBG.out.cell' (i := 3) (v := .int .i64 i.rt) rfl
      have z4 := HBG.out.cell' (i := 4) (v := .int .i64 i.im) rfl
      have y0 := HBH.out.cell' (i := 0) (v := .int .i64 i.op) rfl
      have y1 := HBH.out.cell' (i := 1) (v := .int .i64 i.rd) rfl
      have y2 := HBH.out.cell' (i := 2) (v := .int .i64 i.rs) rfl
      have y3 := HBH.out.cell' (i := 3) (v := .int .i64 i.rt) rfl
      have y4 := HBH.out.cell' (i := 4) (v := .int .i64 i.im) rfl
      have k1 := ins_eq i i
      rw [decide_eq_true rfl] at k1
      have k2 := eq_guard
      go_wp2_with fail
      go_ret
      exact ⟨rfl, HCG.out⟩
end Go.Proofs.YtfidiiifcmmffaaGreatDoor
