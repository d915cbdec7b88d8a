/- Rights: the flags of a text; entries of frames. No condition. -/
import Derived.Test.YtapmojfebljjnaaGreatGm
import Derived.Test.YtapmojfebljjnaaGreatGa
import Derived.Test.YtapmojfebljjnaaGreatGe
import Derived.Deep.LoopGhost
set_option linter.unusedVariables false
set_option linter.unusedSimpArgs false
namespace Go.Proofs.YtapmojfebljjnaaGreat
open Go.RowKit Go.RR
set_option maxRecDepth 100000 in
theorem places_any (b : Nat) (w : World) : Calls Tryz.prog 157 #[.pointer (some ⟨b, 0, none⟩)] w (RetW (.agg #[.pointer (some ⟨b, 0, none⟩), .pointer (some ⟨b, 1, none⟩), .pointer (some ⟨b, 2, none⟩), .pointer (some ⟨b, 3, none⟩), .pointer (some ⟨b, 4, none⟩), .pointer (some ⟨b, 5, none⟩), .pointer (some ⟨b, 6, none⟩), .pointer (some ⟨b, 7, none⟩)]) fun w' => Chg NoB w w') := by
  have HC := Lib.hid (Chg.refl NoB w)
  go_enter Tryz.func157, Tryz.ntmps157
  go_upto_region 1 with fail
  refine wp_region_mix 25 [(true, 0), (true, 1), (true, 2), (true, 3), (true, 4), (true, 5), (true, 6), (true, 7), (true, 8), (true, 9), (true, 10), (true, 11), (true, 12), (true, 13), (true, 14), (true, 15), (true, 16), (true, 17), (true, 18), (true, 19), (true, 20), (true, 21), (true, 22), (true, 23), (true, 24)] (fun _ => True) (by kernel_rfl) (by kernel_rfl) (fun _ _ _ _ _ h => h) (trivial) ?_
  simp only [pickMix_nil, pickMix_cons, Option.getD_some, List.getElem?_toArray, List.getElem?_cons_zero, List.getElem?_cons_succ, List.cons_append, List.nil_append, List.drop_succ_cons, List.drop_zero]
  iterate 25
   refine wpMix_take rfl ?_
   apply Exists.intro
   refine ⟨fun wS hS => ?_, ?_⟩
   · try dsimp only at hS
     have _ := hS
     go_simp
     try rfl
   simp only [Act.put, List.setIfInBounds_toArray, List.set_cons_zero, List.set_cons_succ]
  refine wpMix_nil ?_
  go_wp2_with fail
  exact bodyPost_ret (v := .agg #[.pointer (some ⟨b, 0, none⟩), .pointer (some ⟨b, 1, none⟩), .pointer (some ⟨b, 2, none⟩), .pointer (some ⟨b, 3, none⟩), .pointer (some ⟨b, 4, none⟩), .pointer (some ⟨b, 5, none⟩), .pointer (some ⟨b, 6, none⟩), .pointer (some ⟨b, 7, none⟩)]) (by simp [results, Tryz.results157, go_sem]) rfl ⟨rfl, by first | exact (HC.out.alloc _) | exact (HC.out.alloc _).drew | exact HC.out.drew.alloc _⟩

theorem places_at0 (b : Nat) (w : World) : (Instr.index 260 (.agg #[.pointer (some ⟨b, 0, none⟩), .pointer (some ⟨b, 1, none⟩), .pointer (some ⟨b, 2, none⟩), .pointer (some ⟨b, 3, none⟩), .pointer (some ⟨b, 4, none⟩), .pointer (some ⟨b, 5, none⟩), .pointer (some ⟨b, 6, none⟩), .pointer (some ⟨b, 7, none⟩)]) (.int .i64 0)).run Tryz.prog w = .ok (.pointer (some ⟨b, 0, none⟩)) w := by kernel_rfl
theorem places_at1 (b : Nat) (w : World) : (Instr.index 260 (.agg #[.pointer (some ⟨b, 0, none⟩), .pointer (some ⟨b, 1, none⟩), .pointer (some ⟨b, 2, none⟩), .pointer (some ⟨b, 3, none⟩), .pointer (some ⟨b, 4, none⟩), .pointer (some ⟨b, 5, none⟩), .pointer (some ⟨b, 6, none⟩), .pointer (some ⟨b, 7, none⟩)]) (.int .i64 1)).run Tryz.prog w = .ok (.pointer (some ⟨b, 1, none⟩)) w := by kernel_rfl
theorem places_at2 (b : Nat) (w : World) : (Instr.index 260 (.agg #[.pointer (some ⟨b, 0, none⟩), .pointer (some ⟨b, 1, none⟩), .pointer (some ⟨b, 2, none⟩), .pointer (some ⟨b, 3, none⟩), .pointer (some ⟨b, 4, none⟩), .pointer (some ⟨b, 5, none⟩), .pointer (some ⟨b, 6, none⟩), .pointer (some ⟨b, 7, none⟩)]) (.int .i64 2)).run Tryz.prog w = .ok (.pointer (some ⟨b, 2, none⟩)) w := by kernel_rfl
theorem places_at3 (b : Nat) (w : World) : (Instr.index 260 (.agg #[.pointer (some ⟨b, 0, none⟩), .pointer (some ⟨b, 1, none⟩), .pointer (some ⟨b, 2, none⟩), .pointer (some ⟨b, 3, none⟩), .pointer (some ⟨b, 4, none⟩), .pointer (some ⟨b, 5, none⟩), .pointer (some ⟨b, 6, none⟩), .pointer (some ⟨b, 7, none⟩)]) (.int .i64 3)).run Tryz.prog w = .ok (.pointer (some ⟨b, 3, none⟩)) w := by kernel_rfl
theorem places_at4 (b : Nat) (w : World) : (Instr.index 260 (.agg #[.pointer (some ⟨b, 0, none⟩), .pointer (some ⟨b, 1, none⟩), .pointer (some ⟨b, 2, none⟩), .pointer (some ⟨b, 3, none⟩), .pointer (some ⟨b, 4, none⟩), .pointer (some ⟨b, 5, none⟩), .pointer (some ⟨b, 6, none⟩), .pointer (some ⟨b, 7, none⟩)]) (.int .i64 4)).run Tryz.prog w = .ok (.pointer (some ⟨b, 4, none⟩)) w := by kernel_rfl
theorem places_at5 (b : Nat) (w : World) : (Instr.index 260 (.agg #[.pointer (some ⟨b, 0, none⟩), .pointer (some ⟨b, 1, none⟩), .pointer (some ⟨b, 2, none⟩), .pointer (some ⟨b, 3, none⟩), .pointer (some ⟨b, 4, none⟩), .pointer (some ⟨b, 5, none⟩), .pointer (some ⟨b, 6, none⟩), .pointer (some ⟨b, 7, none⟩)]) (.int .i64 5)).run Tryz.prog w = .ok (.pointer (some ⟨b, 5, none⟩)) w := by kernel_rfl
theorem places_at6 (b : Nat) (w : World) : (Instr.index 260 (.agg #[.pointer (some ⟨b, 0, none⟩), .pointer (some ⟨b, 1, none⟩), .pointer (some ⟨b, 2, none⟩), .pointer (some ⟨b, 3, none⟩), .pointer (some ⟨b, 4, none⟩), .pointer (some ⟨b, 5, none⟩), .pointer (some ⟨b, 6, none⟩), .pointer (some ⟨b, 7, none⟩)]) (.int .i64 6)).run Tryz.prog w = .ok (.pointer (some ⟨b, 6, none⟩)) w := by kernel_rfl
theorem places_at7 (b : Nat) (w : World) : (Instr.index 260 (.agg #[.pointer (some ⟨b, 0, none⟩), .pointer (some ⟨b, 1, none⟩), .pointer (some ⟨b, 2, none⟩), .pointer (some ⟨b, 3, none⟩), .pointer (some ⟨b, 4, none⟩), .pointer (some ⟨b, 5, none⟩), .pointer (some ⟨b, 6, none⟩), .pointer (some ⟨b, 7, none⟩)]) (.int .i64 7)).run Tryz.prog w = .ok (.pointer (some ⟨b, 7, none⟩)) w := by kernel_rfl
set_option maxHeartbeats 4000000 in
set_option maxRecDepth 100000 in
theorem flags_code (w : World) : Calls Tryz.prog 118 #[.string ⟨#[118, 114, 45, 120, 117, 45, 97, 45]⟩] w (RetW (.tuple #[.agg #[.bool true, .bool true, .bool false, .bool true, .bool true, .bool false, .bool true, .bool false, .int .i64 0, .int .u64 0], .bool true]) fun w' => Chg NoB w w') := by
  have HC := Lib.hid (((Chg.refl NoB w).alloc (.cells #[.bool false, .bool false, .bool false, .bool false, .bool false, .bool false, .bool false, .bool false, .int .i64 0, .int .u64 0] 190)).alloc (.cells #[.bool false, .bool false, .bool false, .bool false, .bool false, .bool false, .bool false, .bool false, .int .i64 0, .int .u64 0] 190))
  have HB := Lib.hid (Blk.new (w.alloc (.cells #[.bool false, .bool false, .bool false, .bool false, .bool false, .bool false, .bool false, .bool false, .int .i64 0, .int .u64 0] 190)) #[.bool false, .bool false, .bool false, .bool false, .bool false, .bool false, .bool false, .bool false, .int .i64 0, .int .u64 0] 190)
  have HR := Lib.hid ((Blk.new w #[.bool false, .bool false, .bool false, .bool false, .bool false, .bool false, .bool false, .bool false, .int .i64 0, .int .u64 0] 190).alloc (.cells #[.bool false, .bool false, .bool false, .bool false, .bool false, .bool false, .bool false, .bool false, .int .i64 0, .int .u64 0] 190))
  rw [World.size_alloc] at HB
  have HPl := Lib.hid fun w' => places_any (w.heap.size + 1) w'
  go_enter Tryz.func118, Tryz.ntmps118
  go_upto_region 4 with fail
  generalize (w.alloc (.cells #[.bool false, .bool false, .bool false, .bool false, .bool false, .bool false, .bool false, .bool false, .int .i64 0, .int .u64 0] 190)).alloc (.cells #[.bool false, .bool false, .bool false, .bool false, .bool false, .bool false, .bool false, .bool false, .int .i64 0, .int .u64 0] 190) = w0 at *
  go_wp2_with fail
  refine (HPl.out _).mono ?_
  rintro e w1 ⟨rfl, C1⟩
  have HB1 := Lib.hid (C1.blk0 HB.out)
  have HR1 := Lib.hid (C1.blk0 HR.out)
  have HC1 := Lib.hid (HC.out.step C1)
  clear C1
  go_wp2_with fail
  go_loopg [12] 9 (fun k v wr => Chg NoB w wr ∧ Blk wr w.heap.size #[.bool false, .bool false, .bool false, .bool false, .bool false, .bool false, .bool false, .bool false, .int .i64 0, .int .u64 0] 190 ∧ ((k = 9 ∧ v = .int .i64 0 ∧ Blk wr (w.heap.size + 1) #[.bool false, .bool false, .bool false, .bool false, .bool false, .bool false, .bool false, .bool false, .int .i64 0, .int .u64 0] 190) ∨ (k = 8 ∧ v = .int .i64 1 ∧ Blk wr (w.heap.size + 1) #[.bool true, .bool false, .bool false, .bool false, .bool false, .bool false, .bool false, .bool false, .int .i64 0, .int .u64 0] 190) ∨ (k = 7 ∧ v = .int .i64 2 ∧ Blk wr (w.heap.size + 1) #[.bool true, .bool true, .bool false, .bool false, .bool false, .bool false, .bool false, .bool false, .int .i64 0, .int .u64 0] 190) ∨ (k = 6 ∧ v = .int .i64 3 ∧ Blk wr (w.heap.size + 1) #[.bool true, .bool true, .bool false, .bool false, .bool false, .bool false, .bool false, .bool false, .int .i64 0, .int .u64 0] 190) ∨ (k = 5 ∧ v = .int .i64 4 ∧ Blk wr (w.heap.size + 1) #[.bool true, .bool true, .bool false, .bool true, .bool false, .bool false, .bool false, .bool false, .int .i64 0, .int .u64 0] 190) ∨ (k = 4 ∧ v = .int .i64 5 ∧ Blk wr (w.heap.size + 1) #[.bool true, .bool true, .bool false, .bool true, .bool true, .bool false, .bool false, .bool false, .int .i64 0, .int .u64 0] 190) ∨ (k = 3 ∧ v = .int .i64 6 ∧ Blk wr (w.heap.size + 1) #[.bool true, .bool true, .bool false, .bool true, .bool true, .bool false, .bool false, .bool false, .int .i64 0, .int .u64 0] 190) ∨ (k = 2 ∧ v = .int .i64 7 ∧ Blk wr (w.heap.size + 1) #[.bool true, .bool true, .bool false, .bool true, .bool true, .bool false, .bool true, .bool false, .int .i64 0, .int .u64 0] 190) ∨ (k = 1 ∧ v = .int .i64 8 ∧ Blk wr (w.heap.size + 1) #[.bool true, .bool true, .bool false, .bool true, .bool true, .bool false, .bool true, .bool false, .int .i64 0, .int .u64 0] 190)))
  case atStart => exact ⟨HC1.out, HR1.out, .inl ⟨rfl, rfl, HB1.out⟩⟩
  case round =>
    obtain ⟨hc, hr, hrel⟩ := hrel
    have HCr := Lib.hid hc
    have HRr := Lib.hid hr
    clear hc hr HC HB HR HPl HB1 HR1 HC1
    rcases hrel with ⟨rfl, rfl, hp⟩ | ⟨rfl, rfl, hp⟩ | ⟨rfl, rfl, hp⟩ | ⟨rfl, rfl, hp⟩ | ⟨rfl, rfl, hp⟩ | ⟨rfl, rfl, hp⟩ | ⟨rfl, rfl, hp⟩ | ⟨rfl, rfl, hp⟩ | ⟨rfl, rfl, hp⟩
    · have HX := Lib.hid (And.intro (hp.set 0 (.bool true)) (And.intro (HCr.out.setCell (a := ⟨w.heap.size + 1, 0, none⟩) (.inr (Nat.le_succ _)) (.bool true)) (HRr.out.set_ne (a := ⟨w.heap.size + 1, 0, none⟩) (by show w.heap.size ≠ w.heap.size + 1; omega) (.bool true))))
      have f := hp.cell
      have fl := hp.lt
      have fz := hp.frozen
      have ix := places_at0 (w.heap.size + 1)
      go_upto_region 7 with fail
      refine wp_region_mix 8 [(true, 0), (true, 1), (true, 2), (true, 3), (true, 4), (true, 5), (true, 6), (true, 7)] (fun _ => True) (by kernel_rfl) (by kernel_rfl) (fun _ _ _ _ _ h => h) (trivial) ?_
      simp only [pickMix_nil, pickMix_cons, Option.getD_some, List.getElem?_toArray, List.getElem?_cons_zero, List.getElem?_cons_succ, List.cons_append, List.nil_append, List.drop_succ_cons, List.drop_zero]
      iterate 8
       refine wpMix_take rfl ?_
       apply Exists.intro
       refine ⟨fun wS hS => ?_, ?_⟩
       · try dsimp only at hS
         have _ := hS
         go_simp
         try rfl
       simp only [Act.put, List.setIfInBounds_toArray, List.set_cons_zero, List.set_cons_succ]
      refine wpMix_nil ?_
      go_wp2_with fail
      go_roundg 8
      case rel => exact ⟨HX.out.2.1.drew, HX.out.2.2, .inr (.inl ⟨rfl, rfl, HX.out.1⟩)⟩
      case measure => omega
    · have HX := Lib.hid (And.intro (hp.set 1 (.bool true)) (And.intro (HCr.out.setCell (a := ⟨w.heap.size + 1, 1, none⟩) (.inr (Nat.le_succ _)) (.bool true)) (HRr.out.set_ne (a := ⟨w.heap.size + 1, 1, none⟩) (by show w.heap.size ≠ w.heap.size + 1; omega) (.bool true))))
      have f := hp.cell
      have fl := hp.lt
      have fz := hp.frozen
      have ix := places_at1 (w.heap.size + 1)
      go_upto_region 7 with fail
      refine wp_region_mix 8 [(true, 0), (true, 1), (true, 2), (true, 3), (true, 4), (true, 5), (true, 6), (true, 7)] (fun _ => True) (by kernel_rfl) (by kernel_rfl) (fun _ _ _ _ _ h => h) (trivial) ?_
      simp only [pickMix_nil, pickMix_cons, Option.getD_some, List.getElem?_toArray, List.getElem?_cons_zero, List.getElem?_cons_succ, List.cons_append, List.nil_append, List.drop_succ_cons, List.drop_zero]
      iterate 8
       refine wpMix_take rfl ?_
       apply Exists.intro
       refine ⟨fun wS hS => ?_, ?_⟩
       · try dsimp only at hS
         have _ := hS
         go_simp
         try rfl
       simp only [Act.put, List.setIfInBounds_toArray, List.set_cons_zero, List.set_cons_succ]
      refine wpMix_nil ?_
      go_wp2_with fail
      go_roundg 7
      case rel => exact ⟨HX.out.2.1.drew, HX.out.2.2, .inr (.inr (.inl ⟨rfl, rfl, HX.out.1⟩))⟩
      case measure => omega
    · have HX := Lib.hid (And.intro (hp.set 2 (.bool false)) (And.intro (HCr.out.setCell (a := ⟨w.heap.size + 1, 2, none⟩) (.inr (Nat.le_succ _)) (.bool false)) (HRr.out.set_ne (a := ⟨w.heap.size + 1, 2, none⟩) (by show w.heap.size ≠ w.heap.size + 1; omega) (.bool false))))
      have f := hp.cell
      have fl := hp.lt
      have fz := hp.frozen
      have ix := places_at2 (w.heap.size + 1)
      go_upto_region 7 with fail
      refine wp_region_mix 8 [(true, 0), (true, 1), (true, 2), (true, 3), (true, 4), (true, 5), (true, 6), (true, 7)] (fun _ => True) (by kernel_rfl) (by kernel_rfl) (fun _ _ _ _ _ h => h) (trivial) ?_
      simp only [pickMix_nil, pickMix_cons, Option.getD_some, List.getElem?_toArray, List.getElem?_cons_zero, List.getElem?_cons_succ, List.cons_append, List.nil_append, List.drop_succ_cons, List.drop_zero]
      iterate 8
       refine wpMix_take rfl ?_
       apply Exists.intro
       refine ⟨fun wS hS => ?_, ?_⟩
       · try dsimp only at hS
         have _ := hS
         go_simp
         try rfl
       simp only [Act.put, List.setIfInBounds_toArray, List.set_cons_zero, List.set_cons_succ]
      refine wpMix_nil ?_
      go_wp2_with fail
      go_roundg 6
      case rel => exact ⟨HX.out.2.1.drew, HX.out.2.2, .inr (.inr (.inr (.inl ⟨rfl, rfl, HX.out.1⟩)))⟩
      case measure => omega
    · have HX := Lib.hid (And.intro (hp.set 3 (.bool true)) (And.intro (HCr.out.setCell (a := ⟨w.heap.size + 1, 3, none⟩) (.inr (Nat.le_succ _)) (.bool true)) (HRr.out.set_ne (a := ⟨w.heap.size + 1, 3, none⟩) (by show w.heap.size ≠ w.heap.size + 1; omega) (.bool true))))
      have f := hp.cell
      have fl := hp.lt
      have fz := hp.frozen
      have ix := places_at3 (w.heap.size + 1)
      go_upto_region 7 with fail
      refine wp_region_mix 8 [(true, 0), (true, 1), (true, 2), (true, 3), (true, 4), (true, 5), (true, 6), (true, 7)] (fun _ => True) (by kernel_rfl) (by kernel_rfl) (fun _ _ _ _ _ h => h) (trivial) ?_
      simp only [pickMix_nil, pickMix_cons, Option.getD_some, List.getElem?_toArray, List.getElem?_cons_zero, List.getElem?_cons_succ, List.cons_append, List.nil_append, List.drop_succ_cons, List.drop_zero]
      iterate 8
       refine wpMix_take rfl ?_
       apply Exists.intro
       refine ⟨fun wS hS => ?_, ?_⟩
       · try dsimp only at hS
         have _ := hS
         go_simp
         try rfl
       simp only [Act.put, List.setIfInBounds_toArray, List.set_cons_zero, List.set_cons_succ]
      refine wpMix_nil ?_
      go_wp2_with fail
      go_roundg 5
      case rel => exact ⟨HX.out.2.1.drew, HX.out.2.2, .inr (.inr (.inr (.inr (.inl ⟨rfl, rfl, HX.out.1⟩))))⟩
      case measure => omega
    · have HX := Lib.hid (And.intro (hp.set 4 (.bool true)) (And.intro (HCr.out.setCell (a := ⟨w.heap.size + 1, 4, none⟩) (.inr (Nat.le_succ _)) (.bool true)) (HRr.out.set_ne (a := ⟨w.heap.size + 1, 4, none⟩) (by show w.heap.size ≠ w.heap.size + 1; omega) (.bool true))))
      have f := hp.cell
      have fl := hp.lt
      have fz := hp.frozen
      have ix := places_at4 (w.heap.size + 1)
      go_upto_region 7 with fail
      refine wp_region_mix 8 [(true, 0), (true, 1), (true, 2), (true, 3), (true, 4), (true, 5), (true, 6), (true, 7)] (fun _ => True) (by kernel_rfl) (by kernel_rfl) (fun _ _ _ _ _ h => h) (trivial) ?_
      simp only [pickMix_nil, pickMix_cons, Option.getD_some, List.getElem?_toArray, List.getElem?_cons_zero, List.getElem?_cons_succ, List.cons_append, List.nil_append, List.drop_succ_cons, List.drop_zero]
      iterate 8
       refine wpMix_take rfl ?_
       apply Exists.intro
       refine ⟨fun wS hS => ?_, ?_⟩
       · try dsimp only at hS
         have _ := hS
         go_simp
         try rfl
       simp only [Act.put, List.setIfInBounds_toArray, List.set_cons_zero, List.set_cons_succ]
      refine wpMix_nil ?_
      go_wp2_with fail
      go_roundg 4
      case rel => exact ⟨HX.out.2.1.drew, HX.out.2.2, .inr (.inr (.inr (.inr (.inr (.inl ⟨rfl, rfl, HX.out.1⟩)))))⟩
      case measure => omega
    · have HX := Lib.hid (And.intro (hp.set 5 (.bool false)) (And.intro (HCr.out.setCell (a := ⟨w.heap.size + 1, 5, none⟩) (.inr (Nat.le_succ _)) (.bool false)) (HRr.out.set_ne (a := ⟨w.heap.size + 1, 5, none⟩) (by show w.heap.size ≠ w.heap.size + 1; omega) (.bool false))))
      have f := hp.cell
      have fl := hp.lt
      have fz := hp.frozen
      have ix := places_at5 (w.heap.size + 1)
      go_upto_region 7 with fail
      refine wp_region_mix 8 [(true, 0), (true, 1), (true, 2), (true, 3), (true, 4), (true, 5), (true, 6), (true, 7)] (fun _ => True) (by kernel_rfl) (by kernel_rfl) (fun _ _ _ _ _ h => h) (trivial) ?_
      simp only [pickMix_nil, pickMix_cons, Option.getD_some, List.getElem?_toArray, List.getElem?_cons_zero, List.getElem?_cons_succ, List.cons_append, List.nil_append, List.drop_succ_cons, List.drop_zero]
      iterate 8
       refine wpMix_take rfl ?_
       apply Exists.intro
       refine ⟨fun wS hS => ?_, ?_⟩
       · try dsimp only at hS
         have _ := hS
         go_simp
         try rfl
       simp only [Act.put, List.setIfInBounds_toArray, List.set_cons_zero, List.set_cons_succ]
      refine wpMix_nil ?_
      go_wp2_with fail
      go_roundg 3
      case rel => exact ⟨HX.out.2.1.drew, HX.out.2.2, .inr (.inr (.inr (.inr (.inr (.inr (.inl ⟨rfl, rfl, HX.out.1⟩))))))⟩
      case measure => omega
    · have HX := Lib.hid (And.intro (hp.set 6 (.bool true)) (And.intro (HCr.out.setCell (a := ⟨w.heap.size + 1, 6, none⟩) (.inr (Nat.le_succ _)) (.bool true)) (HRr.out.set_ne (a := ⟨w.heap.size + 1, 6, none⟩) (by show w.heap.size ≠ w.heap.size + 1; omega) (.bool true))))
      have f := hp.cell
      have fl := hp.lt
      have fz := hp.frozen
      have ix := places_at6 (w.heap.size + 1)
      go_upto_region 7 with fail
      refine wp_region_mix 8 [(true, 0), (true, 1), (true, 2), (true, 3), (true, 4), (true, 5), (true, 6), (true, 7)] (fun _ => True) (by kernel_rfl) (by kernel_rfl) (fun _ _ _ _ _ h => h) (trivial) ?_
      simp only [pickMix_nil, pickMix_cons, Option.getD_some, List.getElem?_toArray, List.getElem?_cons_zero, List.getElem?_cons_succ, List.cons_append, List.nil_append, List.drop_succ_cons, List.drop_zero]
      iterate 8
       refine wpMix_take rfl ?_
       apply Exists.intro
       refine ⟨fun wS hS => ?_, ?_⟩
       · try dsimp only at hS
         have _ := hS
         go_simp
         try rfl
       simp only [Act.put, List.setIfInBounds_toArray, List.set_cons_zero, List.set_cons_succ]
      refine wpMix_nil ?_
      go_wp2_with fail
      go_roundg 2
      case rel => exact ⟨HX.out.2.1.drew, HX.out.2.2, .inr (.inr (.inr (.inr (.inr (.inr (.inr (.inl ⟨rfl, rfl, HX.out.1⟩)))))))⟩
      case measure => omega
    · have HX := Lib.hid (And.intro (hp.set 7 (.bool false)) (And.intro (HCr.out.setCell (a := ⟨w.heap.size + 1, 7, none⟩) (.inr (Nat.le_succ _)) (.bool false)) (HRr.out.set_ne (a := ⟨w.heap.size + 1, 7, none⟩) (by show w.heap.size ≠ w.heap.size + 1; omega) (.bool false))))
      have f := hp.cell
      have fl := hp.lt
      have fz := hp.frozen
      have ix := places_at7 (w.heap.size + 1)
      go_upto_region 7 with fail
      refine wp_region_mix 8 [(true, 0), (true, 1), (true, 2), (true, 3), (true, 4), (true, 5), (true, 6), (true, 7)] (fun _ => True) (by kernel_rfl) (by kernel_rfl) (fun _ _ _ _ _ h => h) (trivial) ?_
      simp only [pickMix_nil, pickMix_cons, Option.getD_some, List.getElem?_toArray, List.getElem?_cons_zero, List.getElem?_cons_succ, List.cons_append, List.nil_append, List.drop_succ_cons, List.drop_zero]
      iterate 8
       refine wpMix_take rfl ?_
       apply Exists.intro
       refine ⟨fun wS hS => ?_, ?_⟩
       · try dsimp only at hS
         have _ := hS
         go_simp
         try rfl
       simp only [Act.put, List.setIfInBounds_toArray, List.set_cons_zero, List.set_cons_succ]
      refine wpMix_nil ?_
      go_wp2_with fail
      go_roundg 1
      case rel => exact ⟨HX.out.2.1.drew, HX.out.2.2, .inr (.inr (.inr (.inr (.inr (.inr (.inr (.inr (⟨rfl, rfl, HX.out.1⟩))))))))⟩
      case measure => omega
    · have f := hp.cell
      have fl := hp.lt
      have g := HRr.out.cell
      have gl := HRr.out.lt
      have gz := HRr.out.frozen
      go_wp2_with fail
      exact bodyPost_ret (v := .tuple #[.agg #[.bool true, .bool true, .bool false, .bool true, .bool true, .bool false, .bool true, .bool false, .int .i64 0, .int .u64 0], .bool true]) (by simp [results, Tryz.results118, go_sem, g, gl]) rfl ⟨rfl, ((((((((((HCr.out.setCell (.inr (Nat.le_refl _)) _).setCell (.inr (Nat.le_refl _)) _).setCell (.inr (Nat.le_refl _)) _).setCell (.inr (Nat.le_refl _)) _).setCell (.inr (Nat.le_refl _)) _).setCell (.inr (Nat.le_refl _)) _).setCell (.inr (Nat.le_refl _)) _).setCell (.inr (Nat.le_refl _)) _).setCell (.inr (Nat.le_refl _)) _).setCell (.inr (Nat.le_refl _)) _)⟩
set_option maxHeartbeats 4000000 in
set_option maxRecDepth 100000 in
theorem flags_own (w : World) : Calls Tryz.prog 118 #[.string ⟨#[118, 114, 119, 45, 117, 45, 97, 100]⟩] w (RetW (.tuple #[.agg #[.bool true, .bool true, .bool true, .bool false, .bool true, .bool false, .bool true, .bool true, .int .i64 0, .int .u64 0], .bool true]) fun w' => Chg NoB w w') := by
  have HC := Lib.hid (((Chg.refl NoB w).alloc (.cells #[.bool false, .bool false, .bool false, .bool false, .bool false, .bool false, .bool false, .bool false, .int .i64 0, .int .u64 0] 190)).alloc (.cells #[.bool false, .bool false, .bool false, .bool false, .bool false, .bool false, .bool false, .bool false, .int .i64 0, .int .u64 0] 190))
  have HB := Lib.hid (Blk.new (w.alloc (.cells #[.bool false, .bool false, .bool false, .bool false, .bool false, .bool false, .bool false, .bool false, .int .i64 0, .int .u64 0] 190)) #[.bool false, .bool false, .bool false, .bool false, .bool false, .bool false, .bool false, .bool false, .int .i64 0, .int .u64 0] 190)
  have HR := Lib.hid ((Blk.new w #[.bool false, .bool false, .bool false, .bool false, .bool false, .bool false, .bool false, .bool false, .int .i64 0, .int .u64 0] 190).alloc (.cells #[.bool false, .bool false, .bool false, .bool false, .bool false, .bool false, .bool false, .bool false, .int .i64 0, .int .u64 0] 190))
  rw [World.size_alloc] at HB
  have HPl := Lib.hid fun w' => places_any (w.heap.size + 1) w'
  go_enter Tryz.func118, Tryz.ntmps118
  go_upto_region 4 with fail
  generalize (w.alloc (.cells #[.bool false, .bool false, .bool false, .bool false, .bool false, .bool false, .bool false, .bool false, .int .i64 0, .int .u64 0] 190)).alloc (.cells #[.bool false, .bool false, .bool false, .bool false, .bool false, .bool false, .bool false, .bool false, .int .i64 0, .int .u64 0] 190) = w0 at *
  go_wp2_with fail
  refine (HPl.out _).mono ?_
  rintro e w1 ⟨rfl, C1⟩
  have HB1 := Lib.hid (C1.blk0 HB.out)
  have HR1 := Lib.hid (C1.blk0 HR.out)
  have HC1 := Lib.hid (HC.out.step C1)
  clear C1
  go_wp2_with fail
  go_loopg [12] 9 (fun k v wr => Chg NoB w wr ∧ Blk wr w.heap.size #[.bool false, .bool false, .bool false, .bool false, .bool false, .bool false, .bool false, .bool false, .int .i64 0, .int .u64 0] 190 ∧ ((k = 9 ∧ v = .int .i64 0 ∧ Blk wr (w.heap.size + 1) #[.bool false, .bool false, .bool false, .bool false, .bool false, .bool false, .bool false, .bool false, .int .i64 0, .int .u64 0] 190) ∨ (k = 8 ∧ v = .int .i64 1 ∧ Blk wr (w.heap.size + 1) #[.bool true, .bool false, .bool false, .bool false, .bool false, .bool false, .bool false, .bool false, .int .i64 0, .int .u64 0] 190) ∨ (k = 7 ∧ v = .int .i64 2 ∧ Blk wr (w.heap.size + 1) #[.bool true, .bool true, .bool false, .bool false, .bool false, .bool false, .bool false, .bool false, .int .i64 0, .int .u64 0] 190) ∨ (k = 6 ∧ v = .int .i64 3 ∧ Blk wr (w.heap.size + 1) #[.bool true, .bool true, .bool true, .bool false, .bool false, .bool false, .bool false, .bool false, .int .i64 0, .int .u64 0] 190) ∨ (k = 5 ∧ v = .int .i64 4 ∧ Blk wr (w.heap.size + 1) #[.bool true, .bool true, .bool true, .bool false, .bool false, .bool false, .bool false, .bool false, .int .i64 0, .int .u64 0] 190) ∨ (k = 4 ∧ v = .int .i64 5 ∧ Blk wr (w.heap.size + 1) #[.bool true, .bool true, .bool true, .bool false, .bool true, .bool false, .bool false, .bool false, .int .i64 0, .int .u64 0] 190) ∨ (k = 3 ∧ v = .int .i64 6 ∧ Blk wr (w.heap.size + 1) #[.bool true, .bool true, .bool true, .bool false, .bool true, .bool false, .bool false, .bool false, .int .i64 0, .int .u64 0] 190) ∨ (k = 2 ∧ v = .int .i64 7 ∧ Blk wr (w.heap.size + 1) #[.bool true, .bool true, .bool true, .bool false, .bool true, .bool false, .bool true, .bool false, .int .i64 0, .int .u64 0] 190) ∨ (k = 1 ∧ v = .int .i64 8 ∧ Blk wr (w.heap.size + 1) #[.bool true, .bool true, .bool true, .bool false, .bool true, .bool false, .bool true, .bool true, .int .i64 0, .int .u64 0] 190)))
  case atStart => exact ⟨HC1.out, HR1.out, .inl ⟨rfl, rfl, HB1.out⟩⟩
  case round =>
    obtain ⟨hc, hr, hrel⟩ := hrel
    have HCr := Lib.hid hc
    have HRr := Lib.hid hr
    clear hc hr HC HB HR HPl HB1 HR1 HC1
    rcases hrel with ⟨rfl, rfl, hp⟩ | ⟨rfl, rfl, hp⟩ | ⟨rfl, rfl, hp⟩ | ⟨rfl, rfl, hp⟩ | ⟨rfl, rfl, hp⟩ | ⟨rfl, rfl, hp⟩ | ⟨rfl, rfl, hp⟩ | ⟨rfl, rfl, hp⟩ | ⟨rfl, rfl, hp⟩
    · have HX := Lib.hid (And.intro (hp.set 0 (.bool true)) (And.intro (HCr.out.setCell (a := ⟨w.heap.size + 1, 0, none⟩) (.inr (Nat.le_succ _)) (.bool true)) (HRr.out.set_ne (a := ⟨w.heap.size + 1, 0, none⟩) (by show w.heap.size ≠ w.heap.size + 1; omega) (.bool true))))
      have f := hp.cell
      have fl := hp.lt
      have fz := hp.frozen
      have ix := places_at0 (w.heap.size + 1)
      go_upto_region 7 with fail
      refine wp_region_mix 8 [(true, 0), (true, 1), (true, 2), (true, 3), (true, 4), (true, 5), (true, 6), (true, 7)] (fun _ => True) (by kernel_rfl) (by kernel_rfl) (fun _ _ _ _ _ h => h) (trivial) ?_
      simp only [pickMix_nil, pickMix_cons, Option.getD_some, List.getElem?_toArray, List.getElem?_cons_zero, List.getElem?_cons_succ, List.cons_append, List.nil_append, List.drop_succ_cons, List.drop_zero]
      iterate 8
       refine wpMix_take rfl ?_
       apply Exists.intro
       refine ⟨fun wS hS => ?_, ?_⟩
       · try dsimp only at hS
         have _ := hS
         go_simp
         try rfl
       simp only [Act.put, List.setIfInBounds_toArray, List.set_cons_zero, List.set_cons_succ]
      refine wpMix_nil ?_
      go_wp2_with fail
      go_roundg 8
      case rel => exact ⟨HX.out.2.1.drew, HX.out.2.2, .inr (.inl ⟨rfl, rfl, HX.out.1⟩)⟩
      case measure => omega
    · have HX := Lib.hid (And.intro (hp.set 1 (.bool true)) (And.intro (HCr.out.setCell (a := ⟨w.heap.size + 1, 1, none⟩) (.inr (Nat.le_succ _)) (.bool true)) (HRr.out.set_ne (a := ⟨w.heap.size + 1, 1, none⟩) (by show w.heap.size ≠ w.heap.size + 1; omega) (.bool true))))
      have f := hp.cell
      have fl := hp.lt
      have fz := hp.frozen
      have ix := places_at1 (w.heap.size + 1)
      go_upto_region 7 with fail
      refine wp_region_mix 8 [(true, 0), (true, 1), (true, 2), (true, 3), (true, 4), (true, 5), (true, 6), (true, 7)] (fun _ => True) (by kernel_rfl) (by kernel_rfl) (fun _ _ _ _ _ h => h) (trivial) ?_
      simp only [pickMix_nil, pickMix_cons, Option.getD_some, List.getElem?_toArray, List.getElem?_cons_zero, List.getElem?_cons_succ, List.cons_append, List.nil_append, List.drop_succ_cons, List.drop_zero]
      iterate 8
       refine wpMix_take rfl ?_
       apply Exists.intro
       refine ⟨fun wS hS => ?_, ?_⟩
       · try dsimp only at hS
         have _ := hS
         go_simp
         try rfl
       simp only [Act.put, List.setIfInBounds_toArray, List.set_cons_zero, List.set_cons_succ]
      refine wpMix_nil ?_
      go_wp2_with fail
      go_roundg 7
      case rel => exact ⟨HX.out.2.1.drew, HX.out.2.2, .inr (.inr (.inl ⟨rfl, rfl, HX.out.1⟩))⟩
      case measure => omega
    · have HX := Lib.hid (And.intro (hp.set 2 (.bool true)) (And.intro (HCr.out.setCell (a := ⟨w.heap.size + 1, 2, none⟩) (.inr (Nat.le_succ _)) (.bool true)) (HRr.out.set_ne (a := ⟨w.heap.size + 1, 2, none⟩) (by show w.heap.size ≠ w.heap.size + 1; omega) (.bool true))))
      have f := hp.cell
      have fl := hp.lt
      have fz := hp.frozen
      have ix := places_at2 (w.heap.size + 1)
      go_upto_region 7 with fail
      refine wp_region_mix 8 [(true, 0), (true, 1), (true, 2), (true, 3), (true, 4), (true, 5), (true, 6), (true, 7)] (fun _ => True) (by kernel_rfl) (by kernel_rfl) (fun _ _ _ _ _ h => h) (trivial) ?_
      simp only [pickMix_nil, pickMix_cons, Option.getD_some, List.getElem?_toArray, List.getElem?_cons_zero, List.getElem?_cons_succ, List.cons_append, List.nil_append, List.drop_succ_cons, List.drop_zero]
      iterate 8
       refine wpMix_take rfl ?_
       apply Exists.intro
       refine ⟨fun wS hS => ?_, ?_⟩
       · try dsimp only at hS
         have _ := hS
         go_simp
         try rfl
       simp only [Act.put, List.setIfInBounds_toArray, List.set_cons_zero, List.set_cons_succ]
      refine wpMix_nil ?_
      go_wp2_with fail
      go_roundg 6
      case rel => exact ⟨HX.out.2.1.drew, HX.out.2.2, .inr (.inr (.inr (.inl ⟨rfl, rfl, HX.out.1⟩)))⟩
      case measure => omega
    · have HX := Lib.hid (And.intro (hp.set 3 (.bool false)) (And.intro (HCr.out.setCell (a := ⟨w.heap.size + 1, 3, none⟩) (.inr (Nat.le_succ _)) (.bool false)) (HRr.out.set_ne (a := ⟨w.heap.size + 1, 3, none⟩) (by show w.heap.size ≠ w.heap.size + 1; omega) (.bool false))))
      have f := hp.cell
      have fl := hp.lt
      have fz := hp.frozen
      have ix := places_at3 (w.heap.size + 1)
      go_upto_region 7 with fail
      refine wp_region_mix 8 [(true, 0), (true, 1), (true, 2), (true, 3), (true, 4), (true, 5), (true, 6), (true, 7)] (fun _ => True) (by kernel_rfl) (by kernel_rfl) (fun _ _ _ _ _ h => h) (trivial) ?_
      simp only [pickMix_nil, pickMix_cons, Option.getD_some, List.getElem?_toArray, List.getElem?_cons_zero, List.getElem?_cons_succ, List.cons_append, List.nil_append, List.drop_succ_cons, List.drop_zero]
      iterate 8
       refine wpMix_take rfl ?_
       apply Exists.intro
       refine ⟨fun wS hS => ?_, ?_⟩
       · try dsimp only at hS
         have _ := hS
         go_simp
         try rfl
       simp only [Act.put, List.setIfInBounds_toArray, List.set_cons_zero, List.set_cons_succ]
      refine wpMix_nil ?_
      go_wp2_with fail
      go_roundg 5
      case rel => exact ⟨HX.out.2.1.drew, HX.out.2.2, .inr (.inr (.inr (.inr (.inl ⟨rfl, rfl, HX.out.1⟩))))⟩
      case measure => omega
    · have HX := Lib.hid (And.intro (hp.set 4 (.bool true)) (And.intro (HCr.out.setCell (a := ⟨w.heap.size + 1, 4, none⟩) (.inr (Nat.le_succ _)) (.bool true)) (HRr.out.set_ne (a := ⟨w.heap.size + 1, 4, none⟩) (by show w.heap.size ≠ w.heap.size + 1; omega) (.bool true))))
      have f := hp.cell
      have fl := hp.lt
      have fz := hp.frozen
      have ix := places_at4 (w.heap.size + 1)
      go_upto_region 7 with fail
      refine wp_region_mix 8 [(true, 0), (true, 1), (true, 2), (true, 3), (true, 4), (true, 5), (true, 6), (true, 7)] (fun _ => True) (by kernel_rfl) (by kernel_rfl) (fun _ _ _ _ _ h => h) (trivial) ?_
      simp only [pickMix_nil, pickMix_cons, Option.getD_some, List.getElem?_toArray, List.getElem?_cons_zero, List.getElem?_cons_succ, List.cons_append, List.nil_append, List.drop_succ_cons, List.drop_zero]
      iterate 8
       refine wpMix_take rfl ?_
       apply Exists.intro
       refine ⟨fun wS hS => ?_, ?_⟩
       · try dsimp only at hS
         have _ := hS
         go_simp
         try rfl
       simp only [Act.put, List.setIfInBounds_toArray, List.set_cons_zero, List.set_cons_succ]
      refine wpMix_nil ?_
      go_wp2_with fail
      go_roundg 4
      case rel => exact ⟨HX.out.2.1.drew, HX.out.2.2, .inr (.inr (.inr (.inr (.inr (.inl ⟨rfl, rfl, HX.out.1⟩)))))⟩
      case measure => omega
    · have HX := Lib.hid (And.intro (hp.set 5 (.bool false)) (And.intro (HCr.out.setCell (a := ⟨w.heap.size + 1, 5, none⟩) (.inr (Nat.le_succ _)) (.bool false)) (HRr.out.set_ne (a := ⟨w.heap.size + 1, 5, none⟩) (by show w.heap.size ≠ w.heap.size + 1; omega) (.bool false))))
      have f := hp.cell
      have fl := hp.lt
      have fz := hp.frozen
      have ix := places_at5 (w.heap.size + 1)
      go_upto_region 7 with fail
      refine wp_region_mix 8 [(true, 0), (true, 1), (true, 2), (true, 3), (true, 4), (true, 5), (true, 6), (true, 7)] (fun _ => True) (by kernel_rfl) (by kernel_rfl) (fun _ _ _ _ _ h => h) (trivial) ?_
      simp only [pickMix_nil, pickMix_cons, Option.getD_some, List.getElem?_toArray, List.getElem?_cons_zero, List.getElem?_cons_succ, List.cons_append, List.nil_append, List.drop_succ_cons, List.drop_zero]
      iterate 8
       refine wpMix_take rfl ?_
       apply Exists.intro
       refine ⟨fun wS hS => ?_, ?_⟩
       · try dsimp only at hS
         have _ := hS
         go_simp
         try rfl
       simp only [Act.put, List.setIfInBounds_toArray, List.set_cons_zero, List.set_cons_succ]
      refine wpMix_nil ?_
      go_wp2_with fail
      go_roundg 3
      case rel => exact ⟨HX.out.2.1.drew, HX.out.2.2, .inr (.inr (.inr (.inr (.inr (.inr (.inl ⟨rfl, rfl, HX.out.1⟩))))))⟩
      case measure => omega
    · have HX := Lib.hid (And.intro (hp.set 6 (.bool true)) (And.intro (HCr.out.setCell (a := ⟨w.heap.size + 1, 6, none⟩) (.inr (Nat.le_succ _)) (.bool true)) (HRr.out.set_ne (a := ⟨w.heap.size + 1, 6, none⟩) (by show w.heap.size ≠ w.heap.size + 1; omega) (.bool true))))
      have f := hp.cell
      have fl := hp.lt
      have fz := hp.frozen
      have ix := places_at6 (w.heap.size + 1)
      go_upto_region 7 with fail
      refine wp_region_mix 8 [(true, 0), (true, 1), (true, 2), (true, 3), (true, 4), (true, 5), (true, 6), (true, 7)] (fun _ => True) (by kernel_rfl) (by kernel_rfl) (fun _ _ _ _ _ h => h) (trivial) ?_
      simp only [pickMix_nil, pickMix_cons, Option.getD_some, List.getElem?_toArray, List.getElem?_cons_zero, List.getElem?_cons_succ, List.cons_append, List.nil_append, List.drop_succ_cons, List.drop_zero]
      iterate 8
       refine wpMix_take rfl ?_
       apply Exists.intro
       refine ⟨fun wS hS => ?_, ?_⟩
       · try dsimp only at hS
         have _ := hS
         go_simp
         try rfl
       simp only [Act.put, List.setIfInBounds_toArray, List.set_cons_zero, List.set_cons_succ]
      refine wpMix_nil ?_
      go_wp2_with fail
      go_roundg 2
      case rel => exact ⟨HX.out.2.1.drew, HX.out.2.2, .inr (.inr (.inr (.inr (.inr (.inr (.inr (.inl ⟨rfl, rfl, HX.out.1⟩)))))))⟩
      case measure => omega
    · have HX := Lib.hid (And.intro (hp.set 7 (.bool true)) (And.intro (HCr.out.setCell (a := ⟨w.heap.size + 1, 7, none⟩) (.inr (Nat.le_succ _)) (.bool true)) (HRr.out.set_ne (a := ⟨w.heap.size + 1, 7, none⟩) (by show w.heap.size ≠ w.heap.size + 1; omega) (.bool true))))
      have f := hp.cell
      have fl := hp.lt
      have fz := hp.frozen
      have ix := places_at7 (w.heap.size + 1)
      go_upto_region 7 with fail
      refine wp_region_mix 8 [(true, 0), (true, 1), (true, 2), (true, 3), (true, 4), (true, 5), (true, 6), (true, 7)] (fun _ => True) (by kernel_rfl) (by kernel_rfl) (fun _ _ _ _ _ h => h) (trivial) ?_
      simp only [pickMix_nil, pickMix_cons, Option.getD_some, List.getElem?_toArray, List.getElem?_cons_zero, List.getElem?_cons_succ, List.cons_append, List.nil_append, List.drop_succ_cons, List.drop_zero]
      iterate 8
       refine wpMix_take rfl ?_
       apply Exists.intro
       refine ⟨fun wS hS => ?_, ?_⟩
       · try dsimp only at hS
         have _ := hS
         go_simp
         try rfl
       simp only [Act.put, List.setIfInBounds_toArray, List.set_cons_zero, List.set_cons_succ]
      refine wpMix_nil ?_
      go_wp2_with fail
      go_roundg 1
      case rel => exact ⟨HX.out.2.1.drew, HX.out.2.2, .inr (.inr (.inr (.inr (.inr (.inr (.inr (.inr (⟨rfl, rfl, HX.out.1⟩))))))))⟩
      case measure => omega
    · have f := hp.cell
      have fl := hp.lt
      have g := HRr.out.cell
      have gl := HRr.out.lt
      have gz := HRr.out.frozen
      go_wp2_with fail
      exact bodyPost_ret (v := .tuple #[.agg #[.bool true, .bool true, .bool true, .bool false, .bool true, .bool false, .bool true, .bool true, .int .i64 0, .int .u64 0], .bool true]) (by simp [results, Tryz.results118, go_sem, g, gl]) rfl ⟨rfl, ((((((((((HCr.out.setCell (.inr (Nat.le_refl _)) _).setCell (.inr (Nat.le_refl _)) _).setCell (.inr (Nat.le_refl _)) _).setCell (.inr (Nat.le_refl _)) _).setCell (.inr (Nat.le_refl _)) _).setCell (.inr (Nat.le_refl _)) _).setCell (.inr (Nat.le_refl _)) _).setCell (.inr (Nat.le_refl _)) _).setCell (.inr (Nat.le_refl _)) _).setCell (.inr (Nat.le_refl _)) _)⟩
set_option maxHeartbeats 4000000 in
set_option maxRecDepth 100000 in
theorem flags_read (w : World) : Calls Tryz.prog 118 #[.string ⟨#[118, 114, 45, 45, 117, 45, 97, 45]⟩] w (RetW (.tuple #[.agg #[.bool true, .bool true, .bool false, .bool false, .bool true, .bool false, .bool true, .bool false, .int .i64 0, .int .u64 0], .bool true]) fun w' => Chg NoB w w') := by
  have HC := Lib.hid (((Chg.refl NoB w).alloc (.cells #[.bool false, .bool false, .bool false, .bool false, .bool false, .bool false, .bool false, .bool false, .int .i64 0, .int .u64 0] 190)).alloc (.cells #[.bool false, .bool false, .bool false, .bool false, .bool false, .bool false, .bool false, .bool false, .int .i64 0, .int .u64 0] 190))
  have HB := Lib.hid (Blk.new (w.alloc (.cells #[.bool false, .bool false, .bool false, .bool false, .bool false, .bool false, .bool false, .bool false, .int .i64 0, .int .u64 0] 190)) #[.bool false, .bool false, .bool false, .bool false, .bool false, .bool false, .bool false, .bool false, .int .i64 0, .int .u64 0] 190)
  have HR := Lib.hid ((Blk.new w #[.bool false, .bool false, .bool false, .bool false, .bool false, .bool false, .bool false, .bool false, .int .i64 0, .int .u64 0] 190).alloc (.cells #[.bool false, .bool false, .bool false, .bool false, .bool false, .bool false, .bool false, .bool false, .int .i64 0, .int .u64 0] 190))
  rw [World.size_alloc] at HB
  have HPl := Lib.hid fun w' => places_any (w.heap.size + 1) w'
  go_enter Tryz.func118, Tryz.ntmps118
  go_upto_region 4 with fail
  generalize (w.alloc (.cells #[.bool false, .bool false, .bool false, .bool false, .bool false, .bool false, .bool false, .bool false, .int .i64 0, .int .u64 0] 190)).alloc (.cells #[.bool false, .bool false, .bool false, .bool false, .bool false, .bool false, .bool false, .bool false, .int .i64 0, .int .u64 0] 190) = w0 at *
  go_wp2_with fail
  refine (HPl.out _).mono ?_
  rintro e w1 ⟨rfl, C1⟩
  have HB1 := Lib.hid (C1.blk0 HB.out)
  have HR1 := Lib.hid (C1.blk0 HR.out)
  have HC1 := Lib.hid (HC.out.step C1)
  clear C1
  go_wp2_with fail
  go_loopg [12] 9 (fun k v wr => Chg NoB w wr ∧ Blk wr w.heap.size #[.bool false, .bool false, .bool false, .bool false, .bool false, .bool false, .bool false, .bool false, .int .i64 0, .int .u64 0] 190 ∧ ((k = 9 ∧ v = .int .i64 0 ∧ Blk wr (w.heap.size + 1) #[.bool false, .bool false, .bool false, .bool false, .bool false, .bool false, .bool false, .bool false, .int .i64 0, .int .u64 0] 190) ∨ (k = 8 ∧ v = .int .i64 1 ∧ Blk wr (w.heap.size + 1) #[.bool true, .bool false, .bool false, .bool false, .bool false, .bool false, .bool false, .bool false, .int .i64 0, .int .u64 0] 190) ∨ (k = 7 ∧ v = .int .i64 2 ∧ Blk wr (w.heap.size + 1) #[.bool true, .bool true, .bool false, .bool false, .bool false, .bool false, .bool false, .bool false, .int .i64 0, .int .u64 0] 190) ∨ (k = 6 ∧ v = .int .i64 3 ∧ Blk wr (w.heap.size + 1) #[.bool true, .bool true, .bool false, .bool false, .bool false, .bool false, .bool false, .bool false, .int .i64 0, .int .u64 0] 190) ∨ (k = 5 ∧ v = .int .i64 4 ∧ Blk wr (w.heap.size + 1) #[.bool true, .bool true, .bool false, .bool false, .bool false, .bool false, .bool false, .bool false, .int .i64 0, .int .u64 0] 190) ∨ (k = 4 ∧ v = .int .i64 5 ∧ Blk wr (w.heap.size + 1) #[.bool true, .bool true, .bool false, .bool false, .bool true, .bool false, .bool false, .bool false, .int .i64 0, .int .u64 0] 190) ∨ (k = 3 ∧ v = .int .i64 6 ∧ Blk wr (w.heap.size + 1) #[.bool true, .bool true, .bool false, .bool false, .bool true, .bool false, .bool false, .bool false, .int .i64 0, .int .u64 0] 190) ∨ (k = 2 ∧ v = .int .i64 7 ∧ Blk wr (w.heap.size + 1) #[.bool true, .bool true, .bool false, .bool false, .bool true, .bool false, .bool true, .bool false, .int .i64 0, .int .u64 0] 190) ∨ (k = 1 ∧ v = .int .i64 8 ∧ Blk wr (w.heap.size + 1) #[.bool true, .bool true, .bool false, .bool false, .bool true, .bool false, .bool true, .bool false, .int .i64 0, .int .u64 0] 190)))
  case atStart => exact ⟨HC1.out, HR1.out, .inl ⟨rfl, rfl, HB1.out⟩⟩
  case round =>
    obtain ⟨hc, hr, hrel⟩ := hrel
    have HCr := Lib.hid hc
    have HRr := Lib.hid hr
    clear hc hr HC HB HR HPl HB1 HR1 HC1
    rcases hrel with ⟨rfl, rfl, hp⟩ | ⟨rfl, rfl, hp⟩ | ⟨rfl, rfl, hp⟩ | ⟨rfl, rfl, hp⟩ | ⟨rfl, rfl, hp⟩ | ⟨rfl, rfl, hp⟩ | ⟨rfl, rfl, hp⟩ | ⟨rfl, rfl, hp⟩ | ⟨rfl, rfl, hp⟩
    · have HX := Lib.hid (And.intro (hp.set 0 (.bool true)) (And.intro (HCr.out.setCell (a := ⟨w.heap.size + 1, 0, none⟩) (.inr (Nat.le_succ _)) (.bool true)) (HRr.out.set_ne (a := ⟨w.heap.size + 1, 0, none⟩) (by show w.heap.size ≠ w.heap.size + 1; omega) (.bool true))))
      have f := hp.cell
      have fl := hp.lt
      have fz := hp.frozen
      have ix := places_at0 (w.heap.size + 1)
      go_upto_region 7 with fail
      refine wp_region_mix 8 [(true, 0), (true, 1), (true, 2), (true, 3), (true, 4), (true, 5), (true, 6), (true, 7)] (fun _ => True) (by kernel_rfl) (by kernel_rfl) (fun _ _ _ _ _ h => h) (trivial) ?_
      simp only [pickMix_nil, pickMix_cons, Option.getD_some, List.getElem?_toArray, List.getElem?_cons_zero, List.getElem?_cons_succ, List.cons_append, List.nil_append, List.drop_succ_cons, List.drop_zero]
      iterate 8
       refine wpMix_take rfl ?_
       apply Exists.intro
       refine ⟨fun wS hS => ?_, ?_⟩
       · try dsimp only at hS
         have _ := hS
         go_simp
         try rfl
       simp only [Act.put, List.setIfInBounds_toArray, List.set_cons_zero, List.set_cons_succ]
      refine wpMix_nil ?_
      go_wp2_with fail
      go_roundg 8
      case rel => exact ⟨HX.out.2.1.drew, HX.out.2.2, .inr (.inl ⟨rfl, rfl, HX.out.1⟩)⟩
      case measure => omega
    · have HX := Lib.hid (And.intro (hp.set 1 (.bool true)) (And.intro (HCr.out.setCell (a := ⟨w.heap.size + 1, 1, none⟩) (.inr (Nat.le_succ _)) (.bool true)) (HRr.out.set_ne (a := ⟨w.heap.size + 1, 1, none⟩) (by show w.heap.size ≠ w.heap.size + 1; omega) (.bool true))))
      have f := hp.cell
      have fl := hp.lt
      have fz := hp.frozen
      have ix := places_at1 (w.heap.size + 1)
      go_upto_region 7 with fail
      refine wp_region_mix 8 [(true, 0), (true, 1), (true, 2), (true, 3), (true, 4), (true, 5), (true, 6), (true, 7)] (fun _ => True) (by kernel_rfl) (by kernel_rfl) (fun _ _ _ _ _ h => h) (trivial) ?_
      simp only [pickMix_nil, pickMix_cons, Option.getD_some, List.getElem?_toArray, List.getElem?_cons_zero, List.getElem?_cons_succ, List.cons_append, List.nil_append, List.drop_succ_cons, List.drop_zero]
      iterate 8
       refine wpMix_take rfl ?_
       apply Exists.intro
       refine ⟨fun wS hS => ?_, ?_⟩
       · try dsimp only at hS
         have _ := hS
         go_simp
         try rfl
       simp only [Act.put, List.setIfInBounds_toArray, List.set_cons_zero, List.set_cons_succ]
      refine wpMix_nil ?_
      go_wp2_with fail
      go_roundg 7
      case rel => exact ⟨HX.out.2.1.drew, HX.out.2.2, .inr (.inr (.inl ⟨rfl, rfl, HX.out.1⟩))⟩
      case measure => omega
    · have HX := Lib.hid (And.intro (hp.set 2 (.bool false)) (And.intro (HCr.out.setCell (a := ⟨w.heap.size + 1, 2, none⟩) (.inr (Nat.le_succ _)) (.bool false)) (HRr.out.set_ne (a := ⟨w.heap.size + 1, 2, none⟩) (by show w.heap.size ≠ w.heap.size + 1; omega) (.bool false))))
      have f := hp.cell
      have fl := hp.lt
      have fz := hp.frozen
      have ix := places_at2 (w.heap.size + 1)
      go_upto_region 7 with fail
      refine wp_region_mix 8 [(true, 0), (true, 1), (true, 2), (true, 3), (true, 4), (true, 5), (true, 6), (true, 7)] (fun _ => True) (by kernel_rfl) (by kernel_rfl) (fun _ _ _ _ _ h => h) (trivial) ?_
      simp only [pickMix_nil, pickMix_cons, Option.getD_some, List.getElem?_toArray, List.getElem?_cons_zero, List.getElem?_cons_succ, List.cons_append, List.nil_append, List.drop_succ_cons, List.drop_zero]
      iterate 8
       refine wpMix_take rfl ?_
       apply Exists.intro
       refine ⟨fun wS hS => ?_, ?_⟩
       · try dsimp only at hS
         have _ := hS
         go_simp
         try rfl
       simp only [Act.put, List.setIfInBounds_toArray, List.set_cons_zero, List.set_cons_succ]
      refine wpMix_nil ?_
      go_wp2_with fail
      go_roundg 6
      case rel => exact ⟨HX.out.2.1.drew, HX.out.2.2, .inr (.inr (.inr (.inl ⟨rfl, rfl, HX.out.1⟩)))⟩
      case measure => omega
    · have HX := Lib.hid (And.intro (hp.set 3 (.bool false)) (And.intro (HCr.out.setCell (a := ⟨w.heap.size + 1, 3, none⟩) (.inr (Nat.le_succ _)) (.bool false)) (HRr.out.set_ne (a := ⟨w.heap.size + 1, 3, none⟩) (by show w.heap.size ≠ w.heap.size + 1; omega) (.bool false))))
      have f := hp.cell
      have fl := hp.lt
      have fz := hp.frozen
      have ix := places_at3 (w.heap.size + 1)
      go_upto_region 7 with fail
      refine wp_region_mix 8 [(true, 0), (true, 1), (true, 2), (true, 3), (true, 4), (true, 5), (true, 6), (true, 7)] (fun _ => True) (by kernel_rfl) (by kernel_rfl) (fun _ _ _ _ _ h => h) (trivial) ?_
      simp only [pickMix_nil, pickMix_cons, Option.getD_some, List.getElem?_toArray, List.getElem?_cons_zero, List.getElem?_cons_succ, List.cons_append, List.nil_append, List.drop_succ_cons, List.drop_zero]
      iterate 8
       refine wpMix_take rfl ?_
       apply Exists.intro
       refine ⟨fun wS hS => ?_, ?_⟩
       · try dsimp only at hS
         have _ := hS
         go_simp
         try rfl
       simp only [Act.put, List.setIfInBounds_toArray, List.set_cons_zero, List.set_cons_succ]
      refine wpMix_nil ?_
      go_wp2_with fail
      go_roundg 5
      case rel => exact ⟨HX.out.2.1.drew, HX.out.2.2, .inr (.inr (.inr (.inr (.inl ⟨rfl, rfl, HX.out.1⟩))))⟩
      case measure => omega
    · have HX := Lib.hid (And.intro (hp.set 4 (.bool true)) (And.intro (HCr.out.setCell (a := ⟨w.heap.size + 1, 4, none⟩) (.inr (Nat.le_succ _)) (.bool true)) (HRr.out.set_ne (a := ⟨w.heap.size + 1, 4, none⟩) (by show w.heap.size ≠ w.heap.size + 1; omega) (.bool true))))
      have f := hp.cell
      have fl := hp.lt
      have fz := hp.frozen
      have ix := places_at4 (w.heap.size + 1)
      go_upto_region 7 with fail
      refine wp_region_mix 8 [(true, 0), (true, 1), (true, 2), (true, 3), (true, 4), (true, 5), (true, 6), (true, 7)] (fun _ => True) (by kernel_rfl) (by kernel_rfl) (fun _ _ _ _ _ h => h) (trivial) ?_
      simp only [pickMix_nil, pickMix_cons, Option.getD_some, List.getElem?_toArray, List.getElem?_cons_zero, List.getElem?_cons_succ, List.cons_append, List.nil_append, List.drop_succ_cons, List.drop_zero]
      iterate 8
       refine wpMix_take rfl ?_
       apply Exists.intro
       refine ⟨fun wS hS => ?_, ?_⟩
       · try dsimp only at hS
         have _ := hS
         go_simp
         try rfl
       simp only [Act.put, List.setIfInBounds_toArray, List.set_cons_zero, List.set_cons_succ]
      refine wpMix_nil ?_
      go_wp2_with fail
      go_roundg 4
      case rel => exact ⟨HX.out.2.1.drew, HX.out.2.2, .inr (.inr (.inr (.inr (.inr (.inl ⟨rfl, rfl, HX.out.1⟩)))))⟩
      case measure => omega
    · have HX := Lib.hid (And.intro (hp.set 5 (.bool false)) (And.intro (HCr.out.setCell (a := ⟨w.heap.size + 1, 5, none⟩) (.inr (Nat.le_succ _)) (.bool false)) (HRr.out.set_ne (a := ⟨w.heap.size + 1, 5, none⟩) (by show w.heap.size ≠ w.heap.size + 1; omega) (.bool false))))
      have f := hp.cell
      have fl := hp.lt
      have fz := hp.frozen
      have ix := places_at5 (w.heap.size + 1)
      go_upto_region 7 with fail
      refine wp_region_mix 8 [(true, 0), (true, 1), (true, 2), (true, 3), (true, 4), (true, 5), (true, 6), (true, 7)] (fun _ => True) (by kernel_rfl) (by kernel_rfl) (fun _ _ _ _ _ h => h) (trivial) ?_
      simp only [pickMix_nil, pickMix_cons, Option.getD_some, List.getElem?_toArray, List.getElem?_cons_zero, List.getElem?_cons_succ, List.cons_append, List.nil_append, List.drop_succ_cons, List.drop_zero]
      iterate 8
       refine wpMix_take rfl ?_
       apply Exists.intro
       refine ⟨fun wS hS => ?_, ?_⟩
       · try dsimp only at hS
         have _ := hS
         go_simp
         try rfl
       simp only [Act.put, List.setIfInBounds_toArray, List.set_cons_zero, List.set_cons_succ]
      refine wpMix_nil ?_
      go_wp2_with fail
      go_roundg 3
      case rel => exact ⟨HX.out.2.1.drew, HX.out.2.2, .inr (.inr (.inr (.inr (.inr (.inr (.inl ⟨rfl, rfl, HX.out.1⟩))))))⟩
      case measure => omega
    · have HX := Lib.hid (And.intro (hp.set 6 (.bool true)) (And.intro (HCr.out.setCell (a := ⟨w.heap.size + 1, 6, none⟩) (.inr (Nat.le_succ _)) (.bool true)) (HRr.out.set_ne (a := ⟨w.heap.size + 1, 6, none⟩) (by show w.heap.size ≠ w.heap.size + 1; omega) (.bool true))))
      have f := hp.cell
      have fl := hp.lt
      have fz := hp.frozen
      have ix := places_at6 (w.heap.size + 1)
      go_upto_region 7 with fail
      refine wp_region_mix 8 [(true, 0), (true, 1), (true, 2), (true, 3), (true, 4), (true, 5), (true, 6), (true, 7)] (fun _ => True) (by kernel_rfl) (by kernel_rfl) (fun _ _ _ _ _ h => h) (trivial) ?_
      simp only [pickMix_nil, pickMix_cons, Option.getD_some, List.getElem?_toArray, List.getElem?_cons_zero, List.getElem?_cons_succ, List.cons_append, List.nil_append, List.drop_succ_cons, List.drop_zero]
      iterate 8
       refine wpMix_take rfl ?_
       apply Exists.intro
       refine ⟨fun wS hS => ?_, ?_⟩
       · try dsimp only at hS
         have _ := hS
         go_simp
         try rfl
       simp only [Act.put, List.setIfInBounds_toArray, List.set_cons_zero, List.set_cons_succ]
      refine wpMix_nil ?_
      go_wp2_with fail
      go_roundg 2
      case rel => exact ⟨HX.out.2.1.drew, HX.out.2.2, .inr (.inr (.inr (.inr (.inr (.inr (.inr (.inl ⟨rfl, rfl, HX.out.1⟩)))))))⟩
      case measure => omega
    · have HX := Lib.hid (And.intro (hp.set 7 (.bool false)) (And.intro (HCr.out.setCell (a := ⟨w.heap.size + 1, 7, none⟩) (.inr (Nat.le_succ _)) (.bool false)) (HRr.out.set_ne (a := ⟨w.heap.size + 1, 7, none⟩) (by show w.heap.size ≠ w.heap.size + 1; omega) (.bool false))))
      have f := hp.cell
      have fl := hp.lt
      have fz := hp.frozen
      have ix := places_at7 (w.heap.size + 1)
      go_upto_region 7 with fail
      refine wp_region_mix 8 [(true, 0), (true, 1), (true, 2), (true, 3), (true, 4), (true, 5), (true, 6), (true, 7)] (fun _ => True) (by kernel_rfl) (by kernel_rfl) (fun _ _ _ _ _ h => h) (trivial) ?_
      simp only [pickMix_nil, pickMix_cons, Option.getD_some, List.getElem?_toArray, List.getElem?_cons_zero, List.getElem?_cons_succ, List.cons_append, List.nil_append, List.drop_succ_cons, List.drop_zero]
      iterate 8
       refine wpMix_take rfl ?_
       apply Exists.intro
       refine ⟨fun wS hS => ?_, ?_⟩
       · try dsimp only at hS
         have _ := hS
         go_simp
         try rfl
       simp only [Act.put, List.setIfInBounds_toArray, List.set_cons_zero, List.set_cons_succ]
      refine wpMix_nil ?_
      go_wp2_with fail
      go_roundg 1
      case rel => exact ⟨HX.out.2.1.drew, HX.out.2.2, .inr (.inr (.inr (.inr (.inr (.inr (.inr (.inr (⟨rfl, rfl, HX.out.1⟩))))))))⟩
      case measure => omega
    · have f := hp.cell
      have fl := hp.lt
      have g := HRr.out.cell
      have gl := HRr.out.lt
      have gz := HRr.out.frozen
      go_wp2_with fail
      exact bodyPost_ret (v := .tuple #[.agg #[.bool true, .bool true, .bool false, .bool false, .bool true, .bool false, .bool true, .bool false, .int .i64 0, .int .u64 0], .bool true]) (by simp [results, Tryz.results118, go_sem, g, gl]) rfl ⟨rfl, ((((((((((HCr.out.setCell (.inr (Nat.le_refl _)) _).setCell (.inr (Nat.le_refl _)) _).setCell (.inr (Nat.le_refl _)) _).setCell (.inr (Nat.le_refl _)) _).setCell (.inr (Nat.le_refl _)) _).setCell (.inr (Nat.le_refl _)) _).setCell (.inr (Nat.le_refl _)) _).setCell (.inr (Nat.le_refl _)) _).setCell (.inr (Nat.le_refl _)) _).setCell (.inr (Nat.le_refl _)) _)⟩
end Go.Proofs.YtapmojfebljjnaaGreat
