/- The reference's space of one shape: New. No condition. The reference's space of one shape: Frame, Set. No condition. -/
import Derived.Test.YtapmojfebljjnaaGreatHi
import Derived.Test.YtapmojfebljjnaaGreatGa
set_option linter.unusedVariables false
set_option linter.unusedSimpArgs false
namespace Go.Proofs.YtapmojfebljjnaaGreat
open Go.RowKit Go.RR
theorem rpg_elem : (Tryz.prog.info? 154).map (fun i => (i.zero, i.size, i.bytes)) = some (some (.agg #[.int .i64 0, .bool false, .slice none 0 0]), 3, 40) := by kernel_rfl
theorem bool_elem : (Tryz.prog.info? 4).map (fun i => (i.zero, i.size, i.bytes)) = some (some (.bool false), 1, 1) := by kernel_rfl
theorem mkPages2 (W : World) : (Instr.makeSlice 75 (.int .i64 2) (.int .i64 2)).run Tryz.prog W = .ok (.slice (some ⟨W.heap.size, 0, none⟩) 2 2) (W.alloc (.cells #[.int .i64 0, .bool false, .slice none 0 0, .int .i64 0, .bool false, .slice none 0 0] 154)) := by
  obtain ⟨i0, hi0, hz0, hz1, hz2⟩ := info_parts rpg_elem
  have h := run_make (P := Tryz.prog) W 75 154 i0 _ Tryz.underlying75 hi0 hz0 .i64 .i64 2 2 (by omega) (by omega) (by rw [hz2]; omega) (by omega)
  rw [hz1] at h
  have e : madeCells (Value.agg #[.int .i64 0, .bool false, .slice none 0 0]).cells (Int.toNat 2 * 3) = #[.int .i64 0, .bool false, .slice none 0 0, .int .i64 0, .bool false, .slice none 0 0] := by kernel_rfl
  rw [e] at h
  exact h
theorem mkTabs1 (W : World) : (Instr.makeSlice 34 (.int .i64 1) (.int .i64 1)).run Tryz.prog W = .ok (.slice (some ⟨W.heap.size, 0, none⟩) 1 1) (W.alloc (.cells #[.bool false] 4)) := by
  obtain ⟨i0, hi0, hz0, hz1, hz2⟩ := info_parts bool_elem
  have h := run_make (P := Tryz.prog) W 34 4 i0 _ Tryz.underlying34 hi0 hz0 .i64 .i64 1 1 (by omega) (by omega) (by rw [hz2]; omega) (by omega)
  rw [hz1] at h
  have e : madeCells (Value.bool false).cells (Int.toNat 1 * 1) = #[.bool false] := by kernel_rfl
  rw [e] at h
  exact h
structure RefAt (w : World) (x cb ob pb tb : Nat) (pc : Array Value) (free : Int) (tab lead : Bool) : Prop where
  blk : Blk w x #[.int .i64 1, .int .i64 1, .int .i64 2, .slice (some ⟨cb, 0, none⟩) 4096 4096, .slice (some ⟨ob, 0, none⟩) 4096 4096, .slice (some ⟨pb, 0, none⟩) 2 2, .int .i64 free, .slice (some ⟨tb, 0, none⟩) 1 1, .bool lead] 77
  code : ∃ Z, Blk w cb Z 5 ∧ Z.size = 4096
  pages : Blk w pb pc 154
  tabs : Blk w tb #[.bool tab] 4
  n1 : x ≠ cb
  n2 : x ≠ pb
  n3 : x ≠ tb
  n4 : cb ≠ pb
  n5 : cb ≠ tb
  n6 : pb ≠ tb
set_option maxHeartbeats 1000000 in
set_option maxRecDepth 100000 in
theorem rNew_any (w : World) : Calls Tryz.prog 22 #[.agg #[.int .i64 1, .int .i64 1, .int .i64 2], .int .i64 9, .int .i64 4, .int .i64 2] w
    (RetV fun v w' => ∃ x cb ob pb tb, v = .tuple #[.pointer (some ⟨x, 0, none⟩), .int .i64 0] ∧ RefAt w' x cb ob pb tb #[.int .i64 0, .bool false, .slice none 0 0, .int .i64 0, .bool false, .slice none 0 0] 4 false false ∧ (∀ k, k = x ∨ k = cb ∨ k = pb ∨ k = tb → w.heap.size ≤ k) ∧ Chg NoB w w') := by
  have HR := Lib.hid fun w' => rShape_any w'
  have hm1 := mk4096
  have hm2 := mkPages2
  have hm3 := mkTabs1
  go_enter Tryz.func22, Tryz.ntmps22
  go_wp2_with fail
  refine (HR.out _).mono ?_
  rintro e w1 ⟨rfl, C1⟩
  have k0 : Chg NoB w (w.alloc (.cells #[.int .i64 1, .int .i64 1, .int .i64 2] 62)) := (Chg.refl NoB w).alloc _
  have hB := C1.blk0 (Blk.new w #[.int .i64 1, .int .i64 1, .int .i64 2] 62)
  have g := hB.cell
  have gl := hB.lt
  have HC := Lib.hid (k0.step C1)
  have HB := Lib.hid hB
  clear hB k0 C1 HR
  go_upto_region 9 with fail
  have hz0 := HC.out.size
  have hX : ∀ a c d : Obj, Blk (((w1.alloc (.cells #[.int .i64 1, .int .i64 1, .int .i64 2, .slice (some ⟨w1.heap.size + 1, 0, none⟩) 4096 4096, .slice (some ⟨w1.heap.size + 1 + 1, 0, none⟩) 4096 4096, .slice none 0 0, .int .i64 4, .slice none 0 0, .bool false] 77)).alloc a).alloc c) w1.heap.size #[.int .i64 1, .int .i64 1, .int .i64 2, .slice (some ⟨w1.heap.size + 1, 0, none⟩) 4096 4096, .slice (some ⟨w1.heap.size + 1 + 1, 0, none⟩) 4096 4096, .slice none 0 0, .int .i64 4, .slice none 0 0, .bool false] 77 := fun a c d => ((Blk.new w1 _ _).alloc _).alloc _
  have hX := hX (.cells (bcells (fun _ => 0) 4096).toArray 5) (.cells (bcells (fun _ => 0) 4096).toArray 5) (.cells #[] 0)
  have hC : Blk (((w1.alloc (.cells #[.int .i64 1, .int .i64 1, .int .i64 2, .slice (some ⟨w1.heap.size + 1, 0, none⟩) 4096 4096, .slice (some ⟨w1.heap.size + 1 + 1, 0, none⟩) 4096 4096, .slice none 0 0, .int .i64 4, .slice none 0 0, .bool false] 77)).alloc (.cells (bcells (fun _ => 0) 4096).toArray 5)).alloc (.cells (bcells (fun _ => 0) 4096).toArray 5)) (w1.heap.size + 1) (bcells (fun _ => 0) 4096).toArray 5 := by
    have := Blk.new (w1.alloc (.cells #[.int .i64 1, .int .i64 1, .int .i64 2, .slice (some ⟨w1.heap.size + 1, 0, none⟩) 4096 4096, .slice (some ⟨w1.heap.size + 1 + 1, 0, none⟩) 4096 4096, .slice none 0 0, .int .i64 4, .slice none 0 0, .bool false] 77)) (bcells (fun _ => 0) 4096).toArray 5
    rw [World.size_alloc] at this
    exact this.alloc _
  have hS : Blk (((w1.alloc (.cells #[.int .i64 1, .int .i64 1, .int .i64 2, .slice (some ⟨w1.heap.size + 1, 0, none⟩) 4096 4096, .slice (some ⟨w1.heap.size + 1 + 1, 0, none⟩) 4096 4096, .slice none 0 0, .int .i64 4, .slice none 0 0, .bool false] 77)).alloc (.cells (bcells (fun _ => 0) 4096).toArray 5)).alloc (.cells (bcells (fun _ => 0) 4096).toArray 5)) w.heap.size #[.int .i64 1, .int .i64 1, .int .i64 2] 62 := ((HB.out.alloc _).alloc _).alloc _
  have c3 : Chg NoB w1 (((w1.alloc (.cells #[.int .i64 1, .int .i64 1, .int .i64 2, .slice (some ⟨w1.heap.size + 1, 0, none⟩) 4096 4096, .slice (some ⟨w1.heap.size + 1 + 1, 0, none⟩) 4096 4096, .slice none 0 0, .int .i64 4, .slice none 0 0, .bool false] 77)).alloc (.cells (bcells (fun _ => 0) 4096).toArray 5)).alloc (.cells (bcells (fun _ => 0) 4096).toArray 5)) := (((Chg.refl NoB w1).alloc _).alloc _).alloc _
  have hz3 : (((w1.alloc (.cells #[.int .i64 1, .int .i64 1, .int .i64 2, .slice (some ⟨w1.heap.size + 1, 0, none⟩) 4096 4096, .slice (some ⟨w1.heap.size + 1 + 1, 0, none⟩) 4096 4096, .slice none 0 0, .int .i64 4, .slice none 0 0, .bool false] 77)).alloc (.cells (bcells (fun _ => 0) 4096).toArray 5)).alloc (.cells (bcells (fun _ => 0) 4096).toArray 5)).heap.size = w1.heap.size + 3 := by simp
  generalize (((w1.alloc (.cells #[.int .i64 1, .int .i64 1, .int .i64 2, .slice (some ⟨w1.heap.size + 1, 0, none⟩) 4096 4096, .slice (some ⟨w1.heap.size + 1 + 1, 0, none⟩) 4096 4096, .slice none 0 0, .int .i64 4, .slice none 0 0, .bool false] 77)).alloc (.cells (bcells (fun _ => 0) 4096).toArray 5)).alloc (.cells (bcells (fun _ => 0) 4096).toArray 5)) = w3 at *
  obtain ⟨x, hx⟩ : ∃ x, w1.heap.size = x := ⟨_, rfl⟩
  have HX1 : Hid (w1.heap.size = x) := Lib.hid hx
  obtain ⟨q, hq⟩ : ∃ q, w.heap.size = q := ⟨_, rfl⟩
  have HQ : Hid (w.heap.size = q) := Lib.hid hq
  simp only [hx, hq] at hX hC hS hz3 hz0 ⊢
  have ne : ¬ x = q := by have := HB.out.lt; omega
  have ne' : ¬ q = x := by omega
  have sl := hS.lt
  have sg := hS.cell
  have xg := hX.cell
  have xl := hX.lt
  have xz := hX.frozen
  have HXX := Lib.hid hX
  have HCC := Lib.hid hC
  have HC3 := Lib.hid c3
  have HZ3 := Lib.hid hz3
  have HZ0 := Lib.hid hz0
  clear hX hC hS c3 hz3 hz0 g gl hx hq
  go_wp2_with fail
  have hz := HZ3.out
  have hq := HQ.out
  have hz0 := HZ0.out
  have hbc := HCC.out.lt
  have kx : Chg (fun k => k = x) w3 ((w3.setCell ⟨x, 5, none⟩ (.slice (some ⟨w3.heap.size, 0, none⟩) 2 2)).setCell ⟨x, 7, none⟩ (.slice (some ⟨w3.heap.size + 1, 0, none⟩) 1 1)) := ((Chg.refl (fun k => k = x) w3).setCell (a := ⟨x, 5, none⟩) (.inl rfl) _).setCell (a := ⟨x, 7, none⟩) (.inl rfl) _
  have hsz : ((w3.setCell ⟨x, 5, none⟩ (.slice (some ⟨w3.heap.size, 0, none⟩) 2 2)).setCell ⟨x, 7, none⟩ (.slice (some ⟨w3.heap.size + 1, 0, none⟩) 1 1)).heap.size = w3.heap.size := by simp
  have hP := Blk.new ((w3.setCell ⟨x, 5, none⟩ (.slice (some ⟨w3.heap.size, 0, none⟩) 2 2)).setCell ⟨x, 7, none⟩ (.slice (some ⟨w3.heap.size + 1, 0, none⟩) 1 1)) #[.int .i64 0, .bool false, .slice none 0 0, .int .i64 0, .bool false, .slice none 0 0] 154
  have hT := Blk.new (((w3.setCell ⟨x, 5, none⟩ (.slice (some ⟨w3.heap.size, 0, none⟩) 2 2)).setCell ⟨x, 7, none⟩ (.slice (some ⟨w3.heap.size + 1, 0, none⟩) 1 1)).alloc (.cells #[.int .i64 0, .bool false, .slice none 0 0, .int .i64 0, .bool false, .slice none 0 0] 154)) #[.bool false] 4
  rw [World.size_alloc, hsz] at hT
  rw [hsz] at hP
  refine bodyPost_ret (v := .tuple #[.pointer (some ⟨x, 0, none⟩), .int .i64 0]) (by simp [results, Tryz.results22, go_sem]) rfl ⟨_, rfl, x, x + 1, x + 2, w3.heap.size, w3.heap.size + 1, rfl, ⟨?_, ⟨_, ((kx.blk HCC.out (by omega)).alloc _).alloc _, by simp [bcells_len]⟩, hP.alloc _, hT, by omega, by omega, by omega, by omega, by omega, by omega⟩, by omega, ?_⟩
  · exact (((HXX.out.set 5 (.slice (some ⟨w3.heap.size, 0, none⟩) 2 2)).set 7 (.slice (some ⟨w3.heap.size + 1, 0, none⟩) 1 1)).alloc _).alloc _
  · exact (((HC.out.step HC3.out).trans kx (fun k hk e => by have e : k = x := e; omega)).alloc _).alloc _
end Go.Proofs.YtapmojfebljjnaaGreat
set_option linter.unusedVariables false
set_option linter.unusedSimpArgs false
namespace Go.Proofs.YtapmojfebljjnaaGreat
open Go.RowKit Go.RR
set_option maxHeartbeats 1000000 in
set_option maxRecDepth 100000 in
theorem rFrame0 {w : World} {x cb ob pb tb : Nat} {a0 a1 : Value} {s0 : Value} {tab lead : Bool} (h : RefAt w x cb ob pb tb #[a0, .bool false, .slice none 0 0, a1, .bool false, .slice none 0 0] 4 tab lead) :
    Calls Tryz.prog 63 #[.pointer (some ⟨x, 0, none⟩), .int .i64 0] w (RetW (.int .i64 0) fun w' => ∃ g, RefAt w' x cb ob pb tb #[a0, .bool true, .slice (some ⟨g, 0, none⟩) 4096 4096, a1, .bool false, .slice none 0 0] 3 tab lead ∧ Chg (fun k => k = x ∨ k = pb) w w') := by
  have H := Lib.hid h
  have hm1 := mk4096
  have n2 : ¬ x = pb := h.n2
  have n2' : ¬ pb = x := fun e => h.n2 e.symm
  have xg := h.blk.cell
  have xl := h.blk.lt
  have xz := h.blk.frozen
  have pg := h.pages.cell
  have pl := h.pages.lt
  have pz := h.pages.frozen
  clear h
  go_enter Tryz.func63, Tryz.ntmps63
  go_upto_region 7 with fail
  have hX1 := (H.out.blk.set 6 (.int .i64 3)).set_ne (a := ⟨pb, 1, none⟩) n2 (.bool true)
  have hP1 := (H.out.pages.set_ne (a := ⟨x, 6, none⟩) n2' (.int .i64 3)).set 1 (.bool true)
  have c1 : Chg (fun k => k = x ∨ k = pb) w ((w.setCell ⟨x, 6, none⟩ (.int .i64 3)).setCell ⟨pb, 1, none⟩ (.bool true)) := ((Chg.refl (fun k => k = x ∨ k = pb) w).setCell (a := ⟨x, 6, none⟩) (.inl (.inl rfl)) _).setCell (a := ⟨pb, 1, none⟩) (.inl (.inr rfl)) _
  generalize (w.setCell ⟨x, 6, none⟩ (.int .i64 3)).setCell ⟨pb, 1, none⟩ (.bool true) = w1 at *
  have hX2 : Blk w1 x #[.int .i64 1, .int .i64 1, .int .i64 2, .slice (some ⟨cb, 0, none⟩) 4096 4096, .slice (some ⟨ob, 0, none⟩) 4096 4096, .slice (some ⟨pb, 0, none⟩) 2 2, .int .i64 3, .slice (some ⟨tb, 0, none⟩) 1 1, .bool lead] 77 := hX1
  have hP2 : Blk w1 pb #[a0, .bool true, .slice none 0 0, a1, .bool false, .slice none 0 0] 154 := hP1
  clear hX1 hP1 xg xl xz pg pl pz
  have HX := Lib.hid hX2
  have HP := Lib.hid hP2
  have HC := Lib.hid c1
  have x5 := hX2.cell' (i := 5) (v := .slice (some ⟨pb, 0, none⟩) 2 2) rfl
  have xl := hX2.lt
  clear c1 hX2 hP2
  refine wp_region_mix 6 [(true, 0), (true, 1), (true, 2), (true, 3), (true, 4), (false, 5)] (fun w' => w'.cell? ⟨x, 5, none⟩ = some (.slice (some ⟨pb, 0, none⟩) 2 2)) (by kernel_rfl) (by kernel_rfl) (fun _ _ _ _ _ h => h) (x5) ?_
  simp only [pickMix_nil, pickMix_cons, Option.getD_some, List.getElem?_toArray, List.getElem?_cons_zero, List.getElem?_cons_succ, List.cons_append, List.nil_append, List.drop_succ_cons, List.drop_zero]
  iterate 5
   refine wpMix_take rfl ?_
   apply Exists.intro
   refine ⟨fun wS hS => ?_, ?_⟩
   · try dsimp only at hS
     have cS := hS
     go_simp
     try rfl
   simp only [Act.put, List.setIfInBounds_toArray, List.set_cons_zero, List.set_cons_succ]
  refine wpMix_force rfl (fun K hK => ?_)
  go_simp
  refine hK _ _ ((HX.out.alloc (.cells (bcells (fun _ => 0) 4096).toArray 5)).drew.cell' (i := 5) rfl) ?_
  clear hK K
  refine wpMix_nil ?_
  have hX3 := (HX.out.alloc (.cells (bcells (fun _ => 0) 4096).toArray 5))
  have hP3 := (HP.out.alloc (.cells (bcells (fun _ => 0) 4096).toArray 5))
  have c3 := (HC.out.alloc (.cells (bcells (fun _ => 0) 4096).toArray 5)).drew
  have pl := hP3.lt
  have pz := hP3.frozen
  have pg := hP3.cell' (i := 1 + 1) (v := .slice none 0 0) rfl
  clear hX3 hP3 c3
  go_wp2_with fail
  go_ret
  have c5 := ((HC.out.alloc (.cells (bcells (fun _ => 0) 4096).toArray 5)).setCell (a := ⟨pb, 2, none⟩) (.inl (.inr rfl)) (.slice (some ⟨w1.heap.size, 0, none⟩) 4096 4096)).drew
  obtain ⟨Z, hZ, hZs⟩ := H.out.code
  exact ⟨rfl, w1.heap.size, ⟨((HX.out.alloc _).set_ne (a := ⟨pb, 2, none⟩) n2 _).drew, ⟨Z, c5.blk hZ (fun e => e.elim (fun e => H.out.n1 e.symm) H.out.n4), hZs⟩, ((HP.out.alloc _).set 2 _).drew, c5.blk H.out.tabs (fun e => e.elim (fun e => H.out.n3 e.symm) (fun e => H.out.n6 e.symm)), H.out.n1, H.out.n2, H.out.n3, H.out.n4, H.out.n5, H.out.n6⟩, c5⟩
set_option maxHeartbeats 1000000 in
set_option maxRecDepth 100000 in
theorem rFrame1 {w : World} {x cb ob pb tb : Nat} {a0 a1 : Value} {s0 : Value} {tab lead : Bool} (h : RefAt w x cb ob pb tb #[a0, .bool true, s0, a1, .bool false, .slice none 0 0] 1 tab lead) :
    Calls Tryz.prog 63 #[.pointer (some ⟨x, 0, none⟩), .int .i64 1] w (RetW (.int .i64 0) fun w' => ∃ g, RefAt w' x cb ob pb tb #[a0, .bool true, s0, a1, .bool true, .slice (some ⟨g, 0, none⟩) 4096 4096] 0 tab lead ∧ Chg (fun k => k = x ∨ k = pb) w w') := by
  have H := Lib.hid h
  have hm1 := mk4096
  have n2 : ¬ x = pb := h.n2
  have n2' : ¬ pb = x := fun e => h.n2 e.symm
  have xg := h.blk.cell
  have xl := h.blk.lt
  have xz := h.blk.frozen
  have pg := h.pages.cell
  have pl := h.pages.lt
  have pz := h.pages.frozen
  clear h
  go_enter Tryz.func63, Tryz.ntmps63
  go_upto_region 7 with fail
  have hX1 := (H.out.blk.set 6 (.int .i64 0)).set_ne (a := ⟨pb, 4, none⟩) n2 (.bool true)
  have hP1 := (H.out.pages.set_ne (a := ⟨x, 6, none⟩) n2' (.int .i64 0)).set 4 (.bool true)
  have c1 : Chg (fun k => k = x ∨ k = pb) w ((w.setCell ⟨x, 6, none⟩ (.int .i64 0)).setCell ⟨pb, 4, none⟩ (.bool true)) := ((Chg.refl (fun k => k = x ∨ k = pb) w).setCell (a := ⟨x, 6, none⟩) (.inl (.inl rfl)) _).setCell (a := ⟨pb, 4, none⟩) (.inl (.inr rfl)) _
  generalize (w.setCell ⟨x, 6, none⟩ (.int .i64 0)).setCell ⟨pb, 4, none⟩ (.bool true) = w1 at *
  have hX2 : Blk w1 x #[.int .i64 1, .int .i64 1, .int .i64 2, .slice (some ⟨cb, 0, none⟩) 4096 4096, .slice (some ⟨ob, 0, none⟩) 4096 4096, .slice (some ⟨pb, 0, none⟩) 2 2, .int .i64 0, .slice (some ⟨tb, 0, none⟩) 1 1, .bool lead] 77 := hX1
  have hP2 : Blk w1 pb #[a0, .bool true, s0, a1, .bool true, .slice none 0 0] 154 := hP1
  clear hX1 hP1 xg xl xz pg pl pz
  have HX := Lib.hid hX2
  have HP := Lib.hid hP2
  have HC := Lib.hid c1
  have x5 := hX2.cell' (i := 5) (v := .slice (some ⟨pb, 0, none⟩) 2 2) rfl
  have xl := hX2.lt
  clear c1 hX2 hP2
  refine wp_region_mix 6 [(true, 0), (true, 1), (true, 2), (true, 3), (true, 4), (false, 5)] (fun w' => w'.cell? ⟨x, 5, none⟩ = some (.slice (some ⟨pb, 0, none⟩) 2 2)) (by kernel_rfl) (by kernel_rfl) (fun _ _ _ _ _ h => h) (x5) ?_
  simp only [pickMix_nil, pickMix_cons, Option.getD_some, List.getElem?_toArray, List.getElem?_cons_zero, List.getElem?_cons_succ, List.cons_append, List.nil_append, List.drop_succ_cons, List.drop_zero]
  iterate 5
   refine wpMix_take rfl ?_
   apply Exists.intro
   refine ⟨fun wS hS => ?_, ?_⟩
   · try dsimp only at hS
     have cS := hS
     go_simp
     try rfl
   simp only [Act.put, List.setIfInBounds_toArray, List.set_cons_zero, List.set_cons_succ]
  refine wpMix_force rfl (fun K hK => ?_)
  go_simp
  refine hK _ _ ((HX.out.alloc (.cells (bcells (fun _ => 0) 4096).toArray 5)).drew.cell' (i := 5) rfl) ?_
  clear hK K
  refine wpMix_nil ?_
  have hX3 := (HX.out.alloc (.cells (bcells (fun _ => 0) 4096).toArray 5))
  have hP3 := (HP.out.alloc (.cells (bcells (fun _ => 0) 4096).toArray 5))
  have c3 := (HC.out.alloc (.cells (bcells (fun _ => 0) 4096).toArray 5)).drew
  have pl := hP3.lt
  have pz := hP3.frozen
  have pg := hP3.cell' (i := 4 + 1) (v := .slice none 0 0) rfl
  clear hX3 hP3 c3
  go_wp2_with fail
  go_ret
  have c5 := ((HC.out.alloc (.cells (bcells (fun _ => 0) 4096).toArray 5)).setCell (a := ⟨pb, 5, none⟩) (.inl (.inr rfl)) (.slice (some ⟨w1.heap.size, 0, none⟩) 4096 4096)).drew
  obtain ⟨Z, hZ, hZs⟩ := H.out.code
  exact ⟨rfl, w1.heap.size, ⟨((HX.out.alloc _).set_ne (a := ⟨pb, 5, none⟩) n2 _).drew, ⟨Z, c5.blk hZ (fun e => e.elim (fun e => H.out.n1 e.symm) H.out.n4), hZs⟩, ((HP.out.alloc _).set 5 _).drew, c5.blk H.out.tabs (fun e => e.elim (fun e => H.out.n3 e.symm) (fun e => H.out.n6 e.symm)), H.out.n1, H.out.n2, H.out.n3, H.out.n4, H.out.n5, H.out.n6⟩, c5⟩
set_option maxHeartbeats 1000000 in
set_option maxRecDepth 100000 in
theorem rSet0 {w : World} {x cb ob pb tb : Nat}  (h : RefAt w x cb ob pb tb #[.int .i64 0, .bool false, .slice none 0 0, .int .i64 0, .bool false, .slice none 0 0] 4 false false) :
    Calls Tryz.prog 28 #[.pointer (some ⟨x, 0, none⟩), .int .i64 0, .int .i64 2] w (RetW (.int .i64 0) fun w' => ∃ g, RefAt w' x cb ob pb tb #[.int .i64 2, .bool true, .slice (some ⟨g, 0, none⟩) 4096 4096, .int .i64 0, .bool false, .slice none 0 0] 1 true true ∧ Chg (fun k => k = x ∨ k = pb ∨ k = tb) w w') := by
  have HF := Lib.hid (rFrame0 (s0 := .bool true) h)
  have xg := h.blk.cell
  have xl := h.blk.lt
  have pg := h.pages.cell
  have pl := h.pages.lt
  clear h
  go_enter Tryz.func28, Tryz.ntmps28
  go_wp2_with fail
  refine HF.out.mono ?_
  rintro e w1 ⟨rfl, g, h1, c1⟩
  have H1 := Lib.hid h1
  have HC := Lib.hid c1
  clear xg xl pg pl HF
  have n2 : ¬ x = pb := h1.n2
  have n2' : ¬ pb = x := fun e => h1.n2 e.symm
  have n3 : ¬ x = tb := h1.n3
  have n3' : ¬ tb = x := fun e => h1.n3 e.symm
  have n6 : ¬ pb = tb := h1.n6
  have n6' : ¬ tb = pb := fun e => h1.n6 e.symm
  have xg := h1.blk.cell
  have xl := h1.blk.lt
  have xz := h1.blk.frozen
  have pg := h1.pages.cell
  have pl := h1.pages.lt
  have pz := h1.pages.frozen
  have tg := h1.tabs.cell
  have tl := h1.tabs.lt
  have tz := h1.tabs.frozen
  clear h1 c1
  go_wp2_with fail
  go_ret
  have k1 : Chg (fun k => k = x ∨ k = pb ∨ k = tb) w1 (((((w1.setCell ⟨x, 6, none⟩ (.int .i64 2)).setCell ⟨x, 8, none⟩ (.bool true)).setCell ⟨x, 6, none⟩ (.int .i64 1)).setCell ⟨tb, 0, none⟩ (.bool true)).setCell ⟨pb, 0, none⟩ (.int .i64 2)) := (((((Chg.refl (fun k => k = x ∨ k = pb ∨ k = tb) w1).setCell (a := ⟨x, 6, none⟩) (.inl (.inl rfl)) _).setCell (a := ⟨x, 8, none⟩) (.inl (.inl rfl)) _).setCell (a := ⟨x, 6, none⟩) (.inl (.inl rfl)) _).setCell (a := ⟨tb, 0, none⟩) (.inl (.inr (.inr rfl))) _).setCell (a := ⟨pb, 0, none⟩) (.inl (.inr (.inl rfl))) _
  obtain ⟨Z, hZ, hZs⟩ := H1.out.code
  exact ⟨rfl, g, ⟨((((H1.out.blk.set 6 (.int .i64 2)).set 8 (.bool true)).set 6 (.int .i64 1)).set_ne (a := ⟨tb, 0, none⟩) n3 _).set_ne (a := ⟨pb, 0, none⟩) n2 _, ⟨Z, k1.blk hZ (fun e => by
    rcases e with e | e | e
    · exact H1.out.n1 e.symm
    · exact H1.out.n4 e
    · exact H1.out.n5 e), hZs⟩, ((((H1.out.pages.set_ne (a := ⟨x, 6, none⟩) n2' _).set_ne (a := ⟨x, 8, none⟩) n2' _).set_ne (a := ⟨x, 6, none⟩) n2' _).set_ne (a := ⟨tb, 0, none⟩) n6 _).set 0 (.int .i64 2), ((((H1.out.tabs.set_ne (a := ⟨x, 6, none⟩) n3' _).set_ne (a := ⟨x, 8, none⟩) n3' _).set_ne (a := ⟨x, 6, none⟩) n3' _).set 0 (.bool true)).set_ne (a := ⟨pb, 0, none⟩) n6' _, H1.out.n1, H1.out.n2, H1.out.n3, H1.out.n4, H1.out.n5, H1.out.n6⟩, (HC.out.mono fun k _ e => e.elim .inl fun e => .inr (.inl e)).step k1⟩

set_option maxHeartbeats 1000000 in
set_option maxRecDepth 100000 in
theorem rSet1 {w : World} {x cb ob pb tb : Nat} {s0 : Value} (h : RefAt w x cb ob pb tb #[.int .i64 2, .bool true, s0, .int .i64 0, .bool false, .slice none 0 0] 1 true true) :
    Calls Tryz.prog 28 #[.pointer (some ⟨x, 0, none⟩), .int .i64 1, .int .i64 1] w (RetW (.int .i64 0) fun w' => ∃ g, RefAt w' x cb ob pb tb #[.int .i64 2, .bool true, s0, .int .i64 1, .bool true, .slice (some ⟨g, 0, none⟩) 4096 4096] 0 true true ∧ Chg (fun k => k = x ∨ k = pb ∨ k = tb) w w') := by
  have HF := Lib.hid (rFrame1 h)
  have xg := h.blk.cell
  have xl := h.blk.lt
  have pg := h.pages.cell
  have pl := h.pages.lt
  clear h
  go_enter Tryz.func28, Tryz.ntmps28
  go_wp2_with fail
  refine HF.out.mono ?_
  rintro e w1 ⟨rfl, g, h1, c1⟩
  have H1 := Lib.hid h1
  have HC := Lib.hid c1
  clear xg xl pg pl HF
  have n2 : ¬ x = pb := h1.n2
  have n2' : ¬ pb = x := fun e => h1.n2 e.symm
  have n3 : ¬ x = tb := h1.n3
  have n3' : ¬ tb = x := fun e => h1.n3 e.symm
  have n6 : ¬ pb = tb := h1.n6
  have n6' : ¬ tb = pb := fun e => h1.n6 e.symm
  have xg := h1.blk.cell
  have xl := h1.blk.lt
  have xz := h1.blk.frozen
  have pg := h1.pages.cell
  have pl := h1.pages.lt
  have pz := h1.pages.frozen
  have tg := h1.tabs.cell
  have tl := h1.tabs.lt
  have tz := h1.tabs.frozen
  clear h1 c1
  go_wp2_with fail
  go_ret
  have k1 : Chg (fun k => k = x ∨ k = pb ∨ k = tb) w1 (w1.setCell ⟨pb, 3, none⟩ (.int .i64 1)) := (Chg.refl (fun k => k = x ∨ k = pb ∨ k = tb) w1).setCell (a := ⟨pb, 3, none⟩) (.inl (.inr (.inl rfl))) _
  obtain ⟨Z, hZ, hZs⟩ := H1.out.code
  exact ⟨rfl, g, ⟨H1.out.blk.set_ne (a := ⟨pb, 3, none⟩) n2 _, ⟨Z, k1.blk hZ (fun e => by
    rcases e with e | e | e
    · exact H1.out.n1 e.symm
    · exact H1.out.n4 e
    · exact H1.out.n5 e), hZs⟩, H1.out.pages.set 3 (.int .i64 1), H1.out.tabs.set_ne (a := ⟨pb, 3, none⟩) n6' _, H1.out.n1, H1.out.n2, H1.out.n3, H1.out.n4, H1.out.n5, H1.out.n6⟩, (HC.out.mono fun k _ e => e.elim .inl fun e => .inr (.inl e)).step k1⟩

end Go.Proofs.YtapmojfebljjnaaGreat
