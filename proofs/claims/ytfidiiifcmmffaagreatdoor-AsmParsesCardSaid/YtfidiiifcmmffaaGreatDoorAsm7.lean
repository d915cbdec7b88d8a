/- The parts of an instruction's text, by the program. No condition. -/
import Derived.Test.YtfidiiifcmmffaaGreatDoorAsm6
set_option linter.unusedVariables false
set_option linter.unusedSimpArgs false
namespace Go.Proofs.YtfidiiifcmmffaaGreatDoor
open Go.RowKit Go.RR
def bsv (s : Bs) : Value := .string ⟨s.toArray⟩
/-- A slice that reads as these texts: nil where there is none. -/
def Txts (w w' : World) (v : Value) (l : List Bs) : Prop := Chg NoB w w' ∧ ((l = [] ∧ v = .slice none 0 0) ∨
  ∃ g, l ≠ [] ∧ v = .slice (some ⟨g, 0, none⟩) l.length l.length ∧ g < w'.heap.size ∧ ∀ (j : Nat) (p : Bs), l[j]? = some p → w'.cell? ⟨g, j, none⟩ = some (bsv p))
theorem txts_new {w wa : World} {l : List Bs} (h : Chg NoB w wa) (hl : l ≠ []) (T : TypeId) : Txts w (wa.alloc (.cells (l.map bsv).toArray T)) (.slice (some ⟨wa.heap.size, 0, none⟩) l.length l.length) l :=
  ⟨h.alloc _, .inr ⟨wa.heap.size, hl, rfl, by simp, fun j p hj => (Blk.new wa _ T).cell' (by rw [List.getElem?_toArray, List.getElem?_map, hj]; rfl)⟩⟩
set_option maxHeartbeats 8000000 in
set_option maxRecDepth 100000 in
theorem parts_any (i : In) (w : World) (h : i64I i) (L : Lb w) : Calls Tryz.prog 21 #[.agg #[.int .i64 i.op, .int .i64 i.rd, .int .i64 i.rs, .int .i64 i.rt, .int .i64 i.im]] w (RetV fun v w' => Txts w w' v (partsI i)) := by
  have HL := Lib.hid L
  have HIM : Hid (i64 i.im) := Lib.hid h.2.2.2.2
  have HRD : Hid (i64 i.rd) := Lib.hid h.2.1
  have HRS : Hid (i64 i.rs) := Lib.hid h.2.2.1
  have HRT : Hid (i64 i.rt) := Lib.hid h.2.2.2.1
  have HH := Lib.hid h
  have HB := Lib.hid (Blk.new w #[.int .i64 i.op, .int .i64 i.rd, .int .i64 i.rs, .int .i64 i.rt, .int .i64 i.im] 24)
  have HC := Lib.hid ((Chg.refl NoB w).alloc (.cells #[.int .i64 i.op, .int .i64 i.rd, .int .i64 i.rs, .int .i64 i.rt, .int .i64 i.im] 24))
  have x4 := HB.out.cell' (i := 4) (v := .int .i64 i.im) rfl
  have x0 := HB.out.cell' (i := 0) (v := .int .i64 i.op) rfl
  have HK := Lib.hid fun w => kind_any i.op w
  clear L h
  go_enter Tryz.func21, Tryz.ntmps21
  go_wp2_with fail
  with_reducible refine (itoa_any i.im _ HIM.out (HL.out.chg0 HC.out)).mono ?_
  rintro e w1 ⟨rfl, C1⟩
  have HC1 := Lib.hid (HC.out.step C1)
  have HB1 := Lib.hid (C1.blk0 HB.out)
  clear C1 x4 x0
  have x0 := HB1.out.cell' (i := 0) (v := .int .i64 i.op) rfl
  go_wp2_with fail
  refine (HK.out _).mono ?_
  rintro e w2 ⟨rfl, rfl⟩
  have z0 := (HB1.out.drew).cell' (i := 0) (v := .int .i64 i.op) rfl
  have z1 := (HB1.out.drew).cell' (i := 1) (v := .int .i64 i.rd) rfl
  have z2 := (HB1.out.drew).cell' (i := 2) (v := .int .i64 i.rs) rfl
  have z3 := (HB1.out.drew).cell' (i := 3) (v := .int .i64 i.rt) rfl
  have z4 := (HB1.out.drew).cell' (i := 4) (v := .int .i64 i.im) rfl
  have cX := HC1.out.drew
  have ZX := Lib.hid (And.intro z0 (And.intro z1 (And.intro z2 (And.intro z3 (And.intro z4 cX)))))
  clear z0 z1 z2 z3 z4 cX x0
  cases hk : kd i.op
  · have HP : Hid (partsI i = []) := Lib.hid (by unfold partsI; rw [hk])
    clear hk
    simp only [Kd.s]
    go_wp2_with fail
    go_ret
    exact ⟨_, rfl, HC1.out, .inl ⟨HP.out, rfl⟩⟩
  · have HP : Hid (partsI i = []) := Lib.hid (by unfold partsI; rw [hk])
    clear hk
    simp only [Kd.s]
    go_wp2_with fail
    go_ret
    exact ⟨_, rfl, HC1.out, .inl ⟨HP.out, rfl⟩⟩
  · have HP : Hid (partsI i = [regT i.rd, Go.Lib.itoa i.im]) := Lib.hid (by unfold partsI; rw [hk])
    clear hk
    simp only [Kd.s]
    have x1 := HB1.out.cell' (i := 1) (v := .int .i64 i.rd) rfl
    go_wp2_with fail
    with_reducible refine (regT_any i.rd _ HRD.out (HL.out.chg0 HC1.out)).mono ?_
    rintro e wa ⟨rfl, Ca⟩
    have HCY := Lib.hid (HC1.out.step Ca)
    clear Ca x1
    go_wp2_with fail
    go_ret
    exact ⟨_, rfl, by rw [HP.out]; exact txts_new (l := [regT i.rd, Go.Lib.itoa i.im]) HCY.out (by simp) 9⟩
  · have HP : Hid (partsI i = [regT i.rd, regT i.rs, Go.Lib.itoa i.im]) := Lib.hid (by unfold partsI; rw [hk])
    clear hk
    simp only [Kd.s]
    go_wp2_with fail
    obtain ⟨z0, z1, z2, z3, z4, cX⟩ := ZX.out
    go_region_held3 (fun w' => w'.cell? ⟨w.heap.size, 0, none⟩ = some (.int .i64 i.op) ∧ w'.cell? ⟨w.heap.size, 1, none⟩ = some (.int .i64 i.rd) ∧ w'.cell? ⟨w.heap.size, 2, none⟩ = some (.int .i64 i.rs) ∧ w'.cell? ⟨w.heap.size, 3, none⟩ = some (.int .i64 i.rt) ∧ w'.cell? ⟨w.heap.size, 4, none⟩ = some (.int .i64 i.im) ∧ Chg NoB w w' ) (first | exact ⟨by assumption, by assumption, by assumption, by assumption, by assumption, by assumption⟩ | exact ⟨((Chg.refl NoB _).alloc _).cell (by assumption) id, ((Chg.refl NoB _).alloc _).cell (by assumption) id, ((Chg.refl NoB _).alloc _).cell (by assumption) id, ((Chg.refl NoB _).alloc _).cell (by assumption) id, ((Chg.refl NoB _).alloc _).cell (by assumption) id, Chg.alloc (by assumption) _⟩)
      ((first | (go_at_call 47; (with_reducible refine (regT_any i.rd _ HRD.out (HL.out.chg0 (by assumption))).mono ?_); rintro e wa ⟨rfl, Ca⟩; have z0 := Ca.cell (a := ⟨w.heap.size, 0, none⟩) (v := .int .i64 i.op) (by assumption) id; have z1 := Ca.cell (a := ⟨w.heap.size, 1, none⟩) (v := .int .i64 i.rd) (by assumption) id; have z2 := Ca.cell (a := ⟨w.heap.size, 2, none⟩) (v := .int .i64 i.rs) (by assumption) id; have z3 := Ca.cell (a := ⟨w.heap.size, 3, none⟩) (v := .int .i64 i.rt) (by assumption) id; have z4 := Ca.cell (a := ⟨w.heap.size, 4, none⟩) (v := .int .i64 i.im) (by assumption) id; have cY : Chg NoB w wa := Chg.step (by assumption) Ca) | (go_at_call 47; (with_reducible refine (regT_any i.rs _ HRS.out (HL.out.chg0 (by assumption))).mono ?_); rintro e wa ⟨rfl, Ca⟩; have z0 := Ca.cell (a := ⟨w.heap.size, 0, none⟩) (v := .int .i64 i.op) (by assumption) id; have z1 := Ca.cell (a := ⟨w.heap.size, 1, none⟩) (v := .int .i64 i.rd) (by assumption) id; have z2 := Ca.cell (a := ⟨w.heap.size, 2, none⟩) (v := .int .i64 i.rs) (by assumption) id; have z3 := Ca.cell (a := ⟨w.heap.size, 3, none⟩) (v := .int .i64 i.rt) (by assumption) id; have z4 := Ca.cell (a := ⟨w.heap.size, 4, none⟩) (v := .int .i64 i.im) (by assumption) id; have cY : Chg NoB w wa := Chg.step (by assumption) Ca)))
    all_goals
      have HCY := Lib.hid cY
      clear z0 z1 z2 z3 z4 cX cY
      go_wp2_with fail
      go_ret
      exact ⟨_, rfl, by rw [HP.out]; exact txts_new (l := [regT i.rd, regT i.rs, Go.Lib.itoa i.im]) HCY.out (by simp) 9⟩
  · have HP : Hid (partsI i = [regT i.rd, regT i.rs, regT i.rt]) := Lib.hid (by unfold partsI; rw [hk])
    clear hk
    simp only [Kd.s]
    go_wp2_with fail
    obtain ⟨z0, z1, z2, z3, z4, cX⟩ := ZX.out
    go_region_held3 (fun w' => w'.cell? ⟨w.heap.size, 0, none⟩ = some (.int .i64 i.op) ∧ w'.cell? ⟨w.heap.size, 1, none⟩ = some (.int .i64 i.rd) ∧ w'.cell? ⟨w.heap.size, 2, none⟩ = some (.int .i64 i.rs) ∧ w'.cell? ⟨w.heap.size, 3, none⟩ = some (.int .i64 i.rt) ∧ w'.cell? ⟨w.heap.size, 4, none⟩ = some (.int .i64 i.im) ∧ Chg NoB w w' ) (first | exact ⟨by assumption, by assumption, by assumption, by assumption, by assumption, by assumption⟩ | exact ⟨((Chg.refl NoB _).alloc _).cell (by assumption) id, ((Chg.refl NoB _).alloc _).cell (by assumption) id, ((Chg.refl NoB _).alloc _).cell (by assumption) id, ((Chg.refl NoB _).alloc _).cell (by assumption) id, ((Chg.refl NoB _).alloc _).cell (by assumption) id, Chg.alloc (by assumption) _⟩)
      ((first | (go_at_call 47; (with_reducible refine (regT_any i.rd _ HRD.out (HL.out.chg0 (by assumption))).mono ?_); rintro e wa ⟨rfl, Ca⟩; have z0 := Ca.cell (a := ⟨w.heap.size, 0, none⟩) (v := .int .i64 i.op) (by assumption) id; have z1 := Ca.cell (a := ⟨w.heap.size, 1, none⟩) (v := .int .i64 i.rd) (by assumption) id; have z2 := Ca.cell (a := ⟨w.heap.size, 2, none⟩) (v := .int .i64 i.rs) (by assumption) id; have z3 := Ca.cell (a := ⟨w.heap.size, 3, none⟩) (v := .int .i64 i.rt) (by assumption) id; have z4 := Ca.cell (a := ⟨w.heap.size, 4, none⟩) (v := .int .i64 i.im) (by assumption) id; have cY : Chg NoB w wa := Chg.step (by assumption) Ca) | (go_at_call 47; (with_reducible refine (regT_any i.rs _ HRS.out (HL.out.chg0 (by assumption))).mono ?_); rintro e wa ⟨rfl, Ca⟩; have z0 := Ca.cell (a := ⟨w.heap.size, 0, none⟩) (v := .int .i64 i.op) (by assumption) id; have z1 := Ca.cell (a := ⟨w.heap.size, 1, none⟩) (v := .int .i64 i.rd) (by assumption) id; have z2 := Ca.cell (a := ⟨w.heap.size, 2, none⟩) (v := .int .i64 i.rs) (by assumption) id; have z3 := Ca.cell (a := ⟨w.heap.size, 3, none⟩) (v := .int .i64 i.rt) (by assumption) id; have z4 := Ca.cell (a := ⟨w.heap.size, 4, none⟩) (v := .int .i64 i.im) (by assumption) id; have cY : Chg NoB w wa := Chg.step (by assumption) Ca) | (go_at_call 47; (with_reducible refine (regT_any i.rt _ HRT.out (HL.out.chg0 (by assumption))).mono ?_); rintro e wa ⟨rfl, Ca⟩; have z0 := Ca.cell (a := ⟨w.heap.size, 0, none⟩) (v := .int .i64 i.op) (by assumption) id; have z1 := Ca.cell (a := ⟨w.heap.size, 1, none⟩) (v := .int .i64 i.rd) (by assumption) id; have z2 := Ca.cell (a := ⟨w.heap.size, 2, none⟩) (v := .int .i64 i.rs) (by assumption) id; have z3 := Ca.cell (a := ⟨w.heap.size, 3, none⟩) (v := .int .i64 i.rt) (by assumption) id; have z4 := Ca.cell (a := ⟨w.heap.size, 4, none⟩) (v := .int .i64 i.im) (by assumption) id; have cY : Chg NoB w wa := Chg.step (by assumption) Ca)))
    all_goals
      have HCY := Lib.hid cY
      clear z0 z1 z2 z3 z4 cX cY
      go_wp2_with fail
      go_ret
      exact ⟨_, rfl, by rw [HP.out]; exact txts_new (l := [regT i.rd, regT i.rs, regT i.rt]) HCY.out (by simp) 9⟩
  · have HP : Hid (partsI i = [regT i.rd, regT i.rs]) := Lib.hid (by unfold partsI; rw [hk])
    clear hk
    simp only [Kd.s]
    go_wp2_with fail
    obtain ⟨z0, z1, z2, z3, z4, cX⟩ := ZX.out
    go_region_held3 (fun w' => w'.cell? ⟨w.heap.size, 0, none⟩ = some (.int .i64 i.op) ∧ w'.cell? ⟨w.heap.size, 1, none⟩ = some (.int .i64 i.rd) ∧ w'.cell? ⟨w.heap.size, 2, none⟩ = some (.int .i64 i.rs) ∧ w'.cell? ⟨w.heap.size, 3, none⟩ = some (.int .i64 i.rt) ∧ w'.cell? ⟨w.heap.size, 4, none⟩ = some (.int .i64 i.im) ∧ Chg NoB w w' ) (first | exact ⟨by assumption, by assumption, by assumption, by assumption, by assumption, by assumption⟩ | exact ⟨((Chg.refl NoB _).alloc _).cell (by assumption) id, ((Chg.refl NoB _).alloc _).cell (by assumption) id, ((Chg.refl NoB _).alloc _).cell (by assumption) id, ((Chg.refl NoB _).alloc _).cell (by assumption) id, ((Chg.refl NoB _).alloc _).cell (by assumption) id, Chg.alloc (by assumption) _⟩)
      ((first | (go_at_call 47; (with_reducible refine (regT_any i.rd _ HRD.out (HL.out.chg0 (by assumption))).mono ?_); rintro e wa ⟨rfl, Ca⟩; have z0 := Ca.cell (a := ⟨w.heap.size, 0, none⟩) (v := .int .i64 i.op) (by assumption) id; have z1 := Ca.cell (a := ⟨w.heap.size, 1, none⟩) (v := .int .i64 i.rd) (by assumption) id; have z2 := Ca.cell (a := ⟨w.heap.size, 2, none⟩) (v := .int .i64 i.rs) (by assumption) id; have z3 := Ca.cell (a := ⟨w.heap.size, 3, none⟩) (v := .int .i64 i.rt) (by assumption) id; have z4 := Ca.cell (a := ⟨w.heap.size, 4, none⟩) (v := .int .i64 i.im) (by assumption) id; have cY : Chg NoB w wa := Chg.step (by assumption) Ca) | (go_at_call 47; (with_reducible refine (regT_any i.rs _ HRS.out (HL.out.chg0 (by assumption))).mono ?_); rintro e wa ⟨rfl, Ca⟩; have z0 := Ca.cell (a := ⟨w.heap.size, 0, none⟩) (v := .int .i64 i.op) (by assumption) id; have z1 := Ca.cell (a := ⟨w.heap.size, 1, none⟩) (v := .int .i64 i.rd) (by assumption) id; have z2 := Ca.cell (a := ⟨w.heap.size, 2, none⟩) (v := .int .i64 i.rs) (by assumption) id; have z3 := Ca.cell (a := ⟨w.heap.size, 3, none⟩) (v := .int .i64 i.rt) (by assumption) id; have z4 := Ca.cell (a := ⟨w.heap.size, 4, none⟩) (v := .int .i64 i.im) (by assumption) id; have cY : Chg NoB w wa := Chg.step (by assumption) Ca)))
    all_goals
      have HCY := Lib.hid cY
      clear z0 z1 z2 z3 z4 cX cY
      go_wp2_with fail
      go_ret
      exact ⟨_, rfl, by rw [HP.out]; exact txts_new (l := [regT i.rd, regT i.rs]) HCY.out (by simp) 9⟩
  · have HP : Hid (partsI i = [regT i.rs, regT i.rt, Go.Lib.itoa i.im]) := Lib.hid (by unfold partsI; rw [hk])
    clear hk
    simp only [Kd.s]
    go_wp2_with fail
    obtain ⟨z0, z1, z2, z3, z4, cX⟩ := ZX.out
    go_region_held3 (fun w' => w'.cell? ⟨w.heap.size, 0, none⟩ = some (.int .i64 i.op) ∧ w'.cell? ⟨w.heap.size, 1, none⟩ = some (.int .i64 i.rd) ∧ w'.cell? ⟨w.heap.size, 2, none⟩ = some (.int .i64 i.rs) ∧ w'.cell? ⟨w.heap.size, 3, none⟩ = some (.int .i64 i.rt) ∧ w'.cell? ⟨w.heap.size, 4, none⟩ = some (.int .i64 i.im) ∧ Chg NoB w w' ) (first | exact ⟨by assumption, by assumption, by assumption, by assumption, by assumption, by assumption⟩ | exact ⟨((Chg.refl NoB _).alloc _).cell (by assumption) id, ((Chg.refl NoB _).alloc _).cell (by assumption) id, ((Chg.refl NoB _).alloc _).cell (by assumption) id, ((Chg.refl NoB _).alloc _).cell (by assumption) id, ((Chg.refl NoB _).alloc _).cell (by assumption) id, Chg.alloc (by assumption) _⟩)
      ((first | (go_at_call 47; (with_reducible refine (regT_any i.rs _ HRS.out (HL.out.chg0 (by assumption))).mono ?_); rintro e wa ⟨rfl, Ca⟩; have z0 := Ca.cell (a := ⟨w.heap.size, 0, none⟩) (v := .int .i64 i.op) (by assumption) id; have z1 := Ca.cell (a := ⟨w.heap.size, 1, none⟩) (v := .int .i64 i.rd) (by assumption) id; have z2 := Ca.cell (a := ⟨w.heap.size, 2, none⟩) (v := .int .i64 i.rs) (by assumption) id; have z3 := Ca.cell (a := ⟨w.heap.size, 3, none⟩) (v := .int .i64 i.rt) (by assumption) id; have z4 := Ca.cell (a := ⟨w.heap.size, 4, none⟩) (v := .int .i64 i.im) (by assumption) id; have cY : Chg NoB w wa := Chg.step (by assumption) Ca) | (go_at_call 47; (with_reducible refine (regT_any i.rt _ HRT.out (HL.out.chg0 (by assumption))).mono ?_); rintro e wa ⟨rfl, Ca⟩; have z0 := Ca.cell (a := ⟨w.heap.size, 0, none⟩) (v := .int .i64 i.op) (by assumption) id; have z1 := Ca.cell (a := ⟨w.heap.size, 1, none⟩) (v := .int .i64 i.rd) (by assumption) id; have z2 := Ca.cell (a := ⟨w.heap.size, 2, none⟩) (v := .int .i64 i.rs) (by assumption) id; have z3 := Ca.cell (a := ⟨w.heap.size, 3, none⟩) (v := .int .i64 i.rt) (by assumption) id; have z4 := Ca.cell (a := ⟨w.heap.size, 4, none⟩) (v := .int .i64 i.im) (by assumption) id; have cY : Chg NoB w wa := Chg.step (by assumption) Ca)))
    all_goals
      have HCY := Lib.hid cY
      clear z0 z1 z2 z3 z4 cX cY
      go_wp2_with fail
      go_ret
      exact ⟨_, rfl, by rw [HP.out]; exact txts_new (l := [regT i.rs, regT i.rt, Go.Lib.itoa i.im]) HCY.out (by simp) 9⟩
  · have HP : Hid (partsI i = [regT i.rd, Go.Lib.itoa i.im]) := Lib.hid (by unfold partsI; rw [hk])
    clear hk
    simp only [Kd.s]
    have x1 := HB1.out.cell' (i := 1) (v := .int .i64 i.rd) rfl
    go_wp2_with fail
    with_reducible refine (regT_any i.rd _ HRD.out (HL.out.chg0 HC1.out)).mono ?_
    rintro e wa ⟨rfl, Ca⟩
    have HCY := Lib.hid (HC1.out.step Ca)
    clear Ca x1
    go_wp2_with fail
    go_ret
    exact ⟨_, rfl, by rw [HP.out]; exact txts_new (l := [regT i.rd, Go.Lib.itoa i.im]) HCY.out (by simp) 9⟩
  · have HP : Hid (partsI i = [regT i.rd, plT i.im i.rs]) := Lib.hid (by unfold partsI; rw [hk])
    clear hk
    simp only [Kd.s]
    go_wp2_with fail
    obtain ⟨z0, z1, z2, z3, z4, cX⟩ := ZX.out
    go_region_held3 (fun w' => w'.cell? ⟨w.heap.size, 0, none⟩ = some (.int .i64 i.op) ∧ w'.cell? ⟨w.heap.size, 1, none⟩ = some (.int .i64 i.rd) ∧ w'.cell? ⟨w.heap.size, 2, none⟩ = some (.int .i64 i.rs) ∧ w'.cell? ⟨w.heap.size, 3, none⟩ = some (.int .i64 i.rt) ∧ w'.cell? ⟨w.heap.size, 4, none⟩ = some (.int .i64 i.im) ∧ Chg NoB w w' ) (first | exact ⟨by assumption, by assumption, by assumption, by assumption, by assumption, by assumption⟩ | exact ⟨((Chg.refl NoB _).alloc _).cell (by assumption) id, ((Chg.refl NoB _).alloc _).cell (by assumption) id, ((Chg.refl NoB _).alloc _).cell (by assumption) id, ((Chg.refl NoB _).alloc _).cell (by assumption) id, ((Chg.refl NoB _).alloc _).cell (by assumption) id, Chg.alloc (by assumption) _⟩)
      ((first | (go_at_call 47; (with_reducible refine (regT_any i.rd _ HRD.out (HL.out.chg0 (by assumption))).mono ?_); rintro e wa ⟨rfl, Ca⟩; have z0 := Ca.cell (a := ⟨w.heap.size, 0, none⟩) (v := .int .i64 i.op) (by assumption) id; have z1 := Ca.cell (a := ⟨w.heap.size, 1, none⟩) (v := .int .i64 i.rd) (by assumption) id; have z2 := Ca.cell (a := ⟨w.heap.size, 2, none⟩) (v := .int .i64 i.rs) (by assumption) id; have z3 := Ca.cell (a := ⟨w.heap.size, 3, none⟩) (v := .int .i64 i.rt) (by assumption) id; have z4 := Ca.cell (a := ⟨w.heap.size, 4, none⟩) (v := .int .i64 i.im) (by assumption) id; have cY : Chg NoB w wa := Chg.step (by assumption) Ca) | (go_at_call 48; (with_reducible refine (at_any i _ HH.out (HL.out.chg0 (by assumption))).mono ?_); rintro e wa ⟨rfl, Ca⟩; have z0 := Ca.cell (a := ⟨w.heap.size, 0, none⟩) (v := .int .i64 i.op) (by assumption) id; have z1 := Ca.cell (a := ⟨w.heap.size, 1, none⟩) (v := .int .i64 i.rd) (by assumption) id; have z2 := Ca.cell (a := ⟨w.heap.size, 2, none⟩) (v := .int .i64 i.rs) (by assumption) id; have z3 := Ca.cell (a := ⟨w.heap.size, 3, none⟩) (v := .int .i64 i.rt) (by assumption) id; have z4 := Ca.cell (a := ⟨w.heap.size, 4, none⟩) (v := .int .i64 i.im) (by assumption) id; have cY : Chg NoB w wa := Chg.step (by assumption) Ca)))
    all_goals
      have HCY := Lib.hid cY
      clear z0 z1 z2 z3 z4 cX cY
      go_wp2_with fail
      go_ret
      exact ⟨_, rfl, by rw [HP.out]; exact txts_new (l := [regT i.rd, plT i.im i.rs]) HCY.out (by simp) 9⟩
  · have HP : Hid (partsI i = [regT i.rt, plT i.im i.rs]) := Lib.hid (by unfold partsI; rw [hk])
    clear hk
    simp only [Kd.s]
    go_wp2_with fail
    obtain ⟨z0, z1, z2, z3, z4, cX⟩ := ZX.out
    go_region_held3 (fun w' => w'.cell? ⟨w.heap.size, 0, none⟩ = some (.int .i64 i.op) ∧ w'.cell? ⟨w.heap.size, 1, none⟩ = some (.int .i64 i.rd) ∧ w'.cell? ⟨w.heap.size, 2, none⟩ = some (.int .i64 i.rs) ∧ w'.cell? ⟨w.heap.size, 3, none⟩ = some (.int .i64 i.rt) ∧ w'.cell? ⟨w.heap.size, 4, none⟩ = some (.int .i64 i.im) ∧ Chg NoB w w' ) (first | exact ⟨by assumption, by assumption, by assumption, by assumption, by assumption, by assumption⟩ | exact ⟨((Chg.refl NoB _).alloc _).cell (by assumption) id, ((Chg.refl NoB _).alloc _).cell (by assumption) id, ((Chg.refl NoB _).alloc _).cell (by assumption) id, ((Chg.refl NoB _).alloc _).cell (by assumption) id, ((Chg.refl NoB _).alloc _).cell (by assumption) id, Chg.alloc (by assumption) _⟩)
      ((first | (go_at_call 47; (with_reducible refine (regT_any i.rt _ HRT.out (HL.out.chg0 (by assumption))).mono ?_); rintro e wa ⟨rfl, Ca⟩; have z0 := Ca.cell (a := ⟨w.heap.size, 0, none⟩) (v := .int .i64 i.op) (by assumption) id; have z1 := Ca.cell (a := ⟨w.heap.size, 1, none⟩) (v := .int .i64 i.rd) (by assumption) id; have z2 := Ca.cell (a := ⟨w.heap.size, 2, none⟩) (v := .int .i64 i.rs) (by assumption) id; have z3 := Ca.cell (a := ⟨w.heap.size, 3, none⟩) (v := .int .i64 i.rt) (by assumption) id; have z4 := Ca.cell (a := ⟨w.heap.size, 4, none⟩) (v := .int .i64 i.im) (by assumption) id; have cY : Chg NoB w wa := Chg.step (by assumption) Ca) | (go_at_call 48; (with_reducible refine (at_any i _ HH.out (HL.out.chg0 (by assumption))).mono ?_); rintro e wa ⟨rfl, Ca⟩; have z0 := Ca.cell (a := ⟨w.heap.size, 0, none⟩) (v := .int .i64 i.op) (by assumption) id; have z1 := Ca.cell (a := ⟨w.heap.size, 1, none⟩) (v := .int .i64 i.rd) (by assumption) id; have z2 := Ca.cell (a := ⟨w.heap.size, 2, none⟩) (v := .int .i64 i.rs) (by assumption) id; have z3 := Ca.cell (a := ⟨w.heap.size, 3, none⟩) (v := .int .i64 i.rt) (by assumption) id; have z4 := Ca.cell (a := ⟨w.heap.size, 4, none⟩) (v := .int .i64 i.im) (by assumption) id; have cY : Chg NoB w wa := Chg.step (by assumption) Ca)))
    all_goals
      have HCY := Lib.hid cY
      clear z0 z1 z2 z3 z4 cX cY
      go_wp2_with fail
      go_ret
      exact ⟨_, rfl, by rw [HP.out]; exact txts_new (l := [regT i.rt, plT i.im i.rs]) HCY.out (by simp) 9⟩
  · have HP : Hid (partsI i = [regT i.rd, regT i.rs, regT i.rt]) := Lib.hid (by unfold partsI; rw [hk])
    clear hk
    simp only [Kd.s]
    go_wp2_with fail
    obtain ⟨z0, z1, z2, z3, z4, cX⟩ := ZX.out
    go_region_held3 (fun w' => w'.cell? ⟨w.heap.size, 0, none⟩ = some (.int .i64 i.op) ∧ w'.cell? ⟨w.heap.size, 1, none⟩ = some (.int .i64 i.rd) ∧ w'.cell? ⟨w.heap.size, 2, none⟩ = some (.int .i64 i.rs) ∧ w'.cell? ⟨w.heap.size, 3, none⟩ = some (.int .i64 i.rt) ∧ w'.cell? ⟨w.heap.size, 4, none⟩ = some (.int .i64 i.im) ∧ Chg NoB w w' ) (first | exact ⟨by assumption, by assumption, by assumption, by assumption, by assumption, by assumption⟩ | exact ⟨((Chg.refl NoB _).alloc _).cell (by assumption) id, ((Chg.refl NoB _).alloc _).cell (by assumption) id, ((Chg.refl NoB _).alloc _).cell (by assumption) id, ((Chg.refl NoB _).alloc _).cell (by assumption) id, ((Chg.refl NoB _).alloc _).cell (by assumption) id, Chg.alloc (by assumption) _⟩)
      ((first | (go_at_call 47; (with_reducible refine (regT_any i.rd _ HRD.out (HL.out.chg0 (by assumption))).mono ?_); rintro e wa ⟨rfl, Ca⟩; have z0 := Ca.cell (a := ⟨w.heap.size, 0, none⟩) (v := .int .i64 i.op) (by assumption) id; have z1 := Ca.cell (a := ⟨w.heap.size, 1, none⟩) (v := .int .i64 i.rd) (by assumption) id; have z2 := Ca.cell (a := ⟨w.heap.size, 2, none⟩) (v := .int .i64 i.rs) (by assumption) id; have z3 := Ca.cell (a := ⟨w.heap.size, 3, none⟩) (v := .int .i64 i.rt) (by assumption) id; have z4 := Ca.cell (a := ⟨w.heap.size, 4, none⟩) (v := .int .i64 i.im) (by assumption) id; have cY : Chg NoB w wa := Chg.step (by assumption) Ca) | (go_at_call 47; (with_reducible refine (regT_any i.rs _ HRS.out (HL.out.chg0 (by assumption))).mono ?_); rintro e wa ⟨rfl, Ca⟩; have z0 := Ca.cell (a := ⟨w.heap.size, 0, none⟩) (v := .int .i64 i.op) (by assumption) id; have z1 := Ca.cell (a := ⟨w.heap.size, 1, none⟩) (v := .int .i64 i.rd) (by assumption) id; have z2 := Ca.cell (a := ⟨w.heap.size, 2, none⟩) (v := .int .i64 i.rs) (by assumption) id; have z3 := Ca.cell (a := ⟨w.heap.size, 3, none⟩) (v := .int .i64 i.rt) (by assumption) id; have z4 := Ca.cell (a := ⟨w.heap.size, 4, none⟩) (v := .int .i64 i.im) (by assumption) id; have cY : Chg NoB w wa := Chg.step (by assumption) Ca) | (go_at_call 47; (with_reducible refine (regT_any i.rt _ HRT.out (HL.out.chg0 (by assumption))).mono ?_); rintro e wa ⟨rfl, Ca⟩; have z0 := Ca.cell (a := ⟨w.heap.size, 0, none⟩) (v := .int .i64 i.op) (by assumption) id; have z1 := Ca.cell (a := ⟨w.heap.size, 1, none⟩) (v := .int .i64 i.rd) (by assumption) id; have z2 := Ca.cell (a := ⟨w.heap.size, 2, none⟩) (v := .int .i64 i.rs) (by assumption) id; have z3 := Ca.cell (a := ⟨w.heap.size, 3, none⟩) (v := .int .i64 i.rt) (by assumption) id; have z4 := Ca.cell (a := ⟨w.heap.size, 4, none⟩) (v := .int .i64 i.im) (by assumption) id; have cY : Chg NoB w wa := Chg.step (by assumption) Ca)))
    all_goals
      have HCY := Lib.hid cY
      clear z0 z1 z2 z3 z4 cX cY
      go_wp2_with fail
      go_ret
      exact ⟨_, rfl, by rw [HP.out]; exact txts_new (l := [regT i.rd, regT i.rs, regT i.rt]) HCY.out (by simp) 9⟩
end Go.Proofs.YtfidiiifcmmffaaGreatDoor
