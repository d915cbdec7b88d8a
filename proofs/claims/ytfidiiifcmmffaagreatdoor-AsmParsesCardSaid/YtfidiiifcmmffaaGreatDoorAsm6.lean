/- A place's text, by the program. No condition. -/
import Derived.Test.YtfidiiifcmmffaaGreatDoorAsm5
set_option linter.unusedVariables false
set_option linter.unusedSimpArgs false
namespace Go.Proofs.YtfidiiifcmmffaaGreatDoor
open Go.RowKit Go.RR
def i64I (i : In) : Prop := i64 i.op ∧ i64 i.rd ∧ i64 i.rs ∧ i64 i.rt ∧ i64 i.im
theorem pl_app (im rs : Int) : (⟨(plT im rs).toArray⟩ : ByteArray) = ⟨(Go.Lib.itoa im).toArray⟩ ++ ⟨#[40]⟩ ++ ⟨(regT rs).toArray⟩ ++ ⟨#[41]⟩ := by
  rw [show (⟨#[40]⟩ : ByteArray) = ⟨([40] : Bs).toArray⟩ from rfl, show (⟨#[41]⟩ : ByteArray) = ⟨([41] : Bs).toArray⟩ from rfl, bs_append, bs_append, bs_append]
  unfold plT
  simp
set_option maxHeartbeats 4000000 in
set_option maxRecDepth 100000 in
theorem at_any (i : In) (w : World) (h : i64I i) (L : Lb w) : Calls Tryz.prog 48 #[.agg #[.int .i64 i.op, .int .i64 i.rd, .int .i64 i.rs, .int .i64 i.rt, .int .i64 i.im]] w (RetW (.string ⟨(plT i.im i.rs).toArray⟩) fun w' => Chg NoB w w') := by
  have HL := Lib.hid L
  have HIM : Hid (i64 i.im) := Lib.hid h.2.2.2.2
  have HRS : Hid (i64 i.rs) := Lib.hid h.2.2.1
  have HB := Lib.hid (Blk.new w #[.int .i64 i.op, .int .i64 i.rd, .int .i64 i.rs, .int .i64 i.rt, .int .i64 i.im] 24)
  have z1 := (HB.out.drew).cell' (i := 1) (v := .int .i64 i.rd) rfl
  have z2 := (HB.out.drew).cell' (i := 2) (v := .int .i64 i.rs) rfl
  have z3 := (HB.out.drew).cell' (i := 3) (v := .int .i64 i.rt) rfl
  have z4 := (HB.out.drew).cell' (i := 4) (v := .int .i64 i.im) rfl
  have cX := ((Chg.refl NoB w).alloc (.cells #[.int .i64 i.op, .int .i64 i.rd, .int .i64 i.rs, .int .i64 i.rt, .int .i64 i.im] 24)).drew
  have hl1 := itoa_len h.2.2.2.2
  have hl2 := itoa_len h.2.2.1
  have e2 : (regT i.rs).length = (Go.Lib.itoa i.rs).length + 1 := rfl
  have l1 : ¬ 9223372036854775807 < (Go.Lib.itoa i.im).length + 1 := by omega
  have l2 : ¬ 9223372036854775807 < (Go.Lib.itoa i.im).length + 1 + (regT i.rs).length := by omega
  have l3 : ¬ 9223372036854775807 < (Go.Lib.itoa i.im).length + 1 + (regT i.rs).length + 1 := by omega
  have ZX := Lib.hid (And.intro z1 (And.intro z2 (And.intro z3 (And.intro z4 cX))))
  clear z1 z2 z3 z4 cX L h hl1 hl2 e2
  go_enter Tryz.func48, Tryz.ntmps48
  go_wp2_with fail
  obtain ⟨z1, z2, z3, z4, cX⟩ := ZX.out
  go_region_held3 (fun w' => w'.cell? ⟨w.heap.size, 1, none⟩ = some (.int .i64 i.rd) ∧ w'.cell? ⟨w.heap.size, 2, none⟩ = some (.int .i64 i.rs) ∧ w'.cell? ⟨w.heap.size, 3, none⟩ = some (.int .i64 i.rt) ∧ w'.cell? ⟨w.heap.size, 4, none⟩ = some (.int .i64 i.im) ∧ Chg NoB w w' ) (exact ⟨by assumption, by assumption, by assumption, by assumption, by assumption⟩)
    ((first | (go_at_call 46; (with_reducible refine (itoa_any i.im _ HIM.out (HL.out.chg0 (by assumption))).mono ?_); rintro e wa ⟨rfl, Ca⟩; have z1 := Ca.cell (a := ⟨w.heap.size, 1, none⟩) (v := .int .i64 i.rd) (by assumption) id; have z2 := Ca.cell (a := ⟨w.heap.size, 2, none⟩) (v := .int .i64 i.rs) (by assumption) id; have z3 := Ca.cell (a := ⟨w.heap.size, 3, none⟩) (v := .int .i64 i.rt) (by assumption) id; have z4 := Ca.cell (a := ⟨w.heap.size, 4, none⟩) (v := .int .i64 i.im) (by assumption) id; have cY : Chg NoB w wa := Chg.step (by assumption) Ca) | (go_at_call 47; (with_reducible refine (regT_any i.rs _ HRS.out (HL.out.chg0 (by assumption))).mono ?_); rintro e wa ⟨rfl, Ca⟩; have z1 := Ca.cell (a := ⟨w.heap.size, 1, none⟩) (v := .int .i64 i.rd) (by assumption) id; have z2 := Ca.cell (a := ⟨w.heap.size, 2, none⟩) (v := .int .i64 i.rs) (by assumption) id; have z3 := Ca.cell (a := ⟨w.heap.size, 3, none⟩) (v := .int .i64 i.rt) (by assumption) id; have z4 := Ca.cell (a := ⟨w.heap.size, 4, none⟩) (v := .int .i64 i.im) (by assumption) id; have cY : Chg NoB w wa := Chg.step (by assumption) Ca)))
  all_goals
    have HC := Lib.hid cY
    clear z1 z2 z3 z4 cX cY
    go_wp2_with fail
    go_ret
    exact ⟨by rw [pl_app]; rfl, HC.out⟩
end Go.Proofs.YtfidiiifcmmffaaGreatDoor
