/- An act's text, by the reference. No condition. -/
import Derived.Test.YtfidiiifcmmffaaDoorTrace11
import Derived.Test.YtfidiiifcmmffaaDoorTrace5
set_option linter.unusedVariables false
set_option linter.unusedSimpArgs false
namespace Go.Proofs.YtfidiiifcmmffaaDoor
open Go.RowKit Go.RR

theorem quietW {P : Program} {f : FuncId} {args : Array Value} {w : World} {n : Nat} {v : Value} (h : ∀ w, Calls P f args w (RetW v fun w' => w' = w)) : Calls P f args (w.drewN n) fun e w'' => e = .returned v ∧ ∃ m, w'' = w.drewN m :=
  (h (w.drewN n)).mono fun e w' ⟨he, hw⟩ => ⟨he, n, hw⟩
theorem bs_app (a b : Bs) : (⟨(a ++ b).toArray⟩ : ByteArray) = ⟨a.toArray⟩ ++ ⟨b.toArray⟩ := (bs_append a b).symm
theorem join1_eq (x : Bs) (c : UInt8) : Go.Lib.join [x] [c] = x := by rw [Go.Lib.join_one]
theorem join2_eq (x y : Bs) (c : UInt8) : Go.Lib.join [x, y] [c] = x ++ [c] ++ y := by
  rw [Go.Lib.join_cons]
  show x ++ (([c] ++ y) ++ []) = _
  simp
theorem join3_eq (x y z : Bs) (c : UInt8) : Go.Lib.join [x, y, z] [c] = x ++ [c] ++ y ++ [c] ++ z := by
  rw [Go.Lib.join_cons]
  show x ++ (([c] ++ y) ++ (([c] ++ z) ++ [])) = _
  simp
theorem names_at (k : Nat) (hk : k < 7) : (strs namesF).toArray[k]? = some (.string ⟨(nameF k).toArray⟩) := by
  match k, hk with
  | 0, _ => rfl
  | 1, _ => rfl
  | 2, _ => rfl
  | 3, _ => rfl
  | 4, _ => rfl
  | 5, _ => rfl
  | 6, _ => rfl
theorem names2 (j : Nat) (hj : j < 7) (W : World) : Calls Tryd.prog 21 #[] W (RetW (.slice (some ⟨W.heap.size, 0, none⟩) 7 7) fun w' => Chg NoB W w' ∧ w'.cell? ⟨W.heap.size, j, none⟩ = some (.string ⟨(nameF j).toArray⟩)) :=
  (names_any W).mono fun e w' ⟨he, hw⟩ => ⟨he, by rw [hw]; exact ⟨(Chg.refl _ _).alloc _, (Blk.new W _ 9).cell' (names_at j hj)⟩⟩
set_option maxHeartbeats 4000000 in
set_option maxRecDepth 100000 in
theorem ract_any (k a b : Int) (w : World) (ha : i64 a) (hb : i64 b) (hk : i64 k) : Calls Tryd.prog 10 #[.agg #[.int .i64 k, .int .i64 a, .int .i64 b]] w (RetW (.string ⟨(actF (k, a, b)).toArray⟩) fun w' => Chg NoB w w') := by
  have HC0 := Lib.hid ((Chg.refl NoB w).alloc (.cells #[.int .i64 k, .int .i64 a, .int .i64 b] 23))
  have B0 := Blk.new w #[.int .i64 k, .int .i64 a, .int .i64 b] 23
  have x0 := B0.cell' (i := 0) (v := .int .i64 k) rfl
  have x1 := B0.cell' (i := 1) (v := .int .i64 a) rfl
  have x2 := B0.cell' (i := 2) (v := .int .i64 b) rfl
  have HB0 := Lib.hid B0
  have HNA := Lib.hid fun w => num_any a w ha
  have HNB := Lib.hid fun w => num_any b w hb
  have hla := itoa_len ha
  have hlb := itoa_len hb
  unfold i64 at hk
  clear ha hb B0
  cases k0 : decide (k < 0)
  · cases k1 : decide (6 < k)
    · obtain ⟨j, rfl⟩ : ∃ j : Nat, k = j := ⟨k.toNat, by have := of_decide_eq_false k0; omega⟩
      have hj : j < 7 := by have := of_decide_eq_false k1; omega
      have hj0 : (0 : Int) ≤ j := by omega
      have hj1 : (j : Int) < 7 := by omega
      have hnl := name_len hj
      have HNM := Lib.hid (names_at j hj)
      have HCT := Lib.hid fun w => count_any j hj w
      obtain ⟨c, hc⟩ : ∃ c, cntF j = c := ⟨_, rfl⟩
      have hc2 := cnt_le hj
      rw [hc] at HCT hc2
      have HG := Lib.hid fun h => actF_good (k := j) (x := a) (y := b) hj h
      have HBAD := Lib.hid fun h => actF_bad (k := j) (x := a) (y := b) hj h
      rw [hc] at HG HBAD
      have l1 : ¬ 9223372036854775807 < (nameF j).length + 1 := by omega
      have l2 : ¬ 9223372036854775807 < (nameF j).length + 1 + (Go.Lib.itoa a).length := by omega
      have l3 : ¬ 9223372036854775807 < (nameF j).length + 1 + (Go.Lib.itoa a).length + 1 := by omega
      have l4 : ¬ 9223372036854775807 < (nameF j).length + 1 + (Go.Lib.itoa a).length + 1 + (Go.Lib.itoa b).length := by omega
      clear hla hlb hnl
      match c, hc2 with
      | 2, _ =>
        have HCT1 : Hid (∀ w : World, Calls Tryd.prog 22 #[.int .i64 j] w (RetW (.int .i64 2) fun w' => Chg NoB w w')) := HCT
        go_enter Tryd.func10, Tryd.ntmps10
        go_wp2_with fail
        refine wp_region_take 5 [1, 2] [0, 3, 4] (fun w' => w'.cell? ⟨w.heap.size, 0, none⟩ = some (.int .i64 j)) (by kernel_rfl) (by kernel_rfl) (fun _ _ _ _ _ h => h) (by assumption) ?_
        simp only [pickOps_nil, pickOps_cons, Option.getD_some, List.getElem?_toArray, List.getElem?_cons_zero, List.getElem?_cons_succ, List.cons_append, List.nil_append, List.drop_succ_cons, List.drop_zero]
        repeat
          refine wpTake_cons' rfl ?_
          apply Exists.intro
          refine ⟨fun wS hS => ?_, ?_⟩
          · try dsimp only at hS
            obtain x0 := hS
            go_simp
            try rfl
          simp only [Act.put, List.setIfInBounds_toArray, List.set_cons_zero, List.set_cons_succ]
        refine wpTake_nil ?_
        refine wpForce_cons rfl (fun K hK => ?_)
        go_simp
        with_reducible refine (names2 j hj _).mono ?_
        rintro e wa ⟨rfl, Ca, nm⟩
        replace nm : wa.cell? ⟨w.heap.size + 1, j, none⟩ = some (.string ⟨(nameF j).toArray⟩) := by simpa using nm
        have y0 := Ca.cell (a := ⟨w.heap.size, 0, none⟩) (v := .int .i64 j) (by assumption) id
        refine hK _ _ y0 ?_
        clear hK K
        refine wpForce_cons rfl (fun K hK => ?_)
        go_simp
        refine hK _ _ y0 ?_
        clear hK K
        refine wpForce_cons rfl (fun K hK => ?_)
        go_simp
        refine hK _ _ y0 ?_
        clear hK K
        refine wpForce_nil ?_
        have HCA := Lib.hid (HC0.out.drew.step Ca)
        have HBA := Lib.hid (Ca.blk0 HB0.out.drew)
        clear x0 x1 x2 nm y0 Ca
        have z0 := HBA.out.cell' (i := 0) (v := .int .i64 j) rfl
        have z1 := HBA.out.cell' (i := 1) (v := .int .i64 a) rfl
        have z2 := HBA.out.cell' (i := 2) (v := .int .i64 b) rfl
        go_wp2_with fail
        with_reducible refine (HCT1.out _).mono ?_
        rintro e w2 ⟨rfl, C2⟩
        have HC2 := Lib.hid (HCA.out.step C2)
        have HB2 := Lib.hid (C2.blk0 HBA.out)
        clear C2 z0 z1 z2
        have z0 := HB2.out.cell' (i := 0) (v := .int .i64 j) rfl
        have z1 := HB2.out.cell' (i := 1) (v := .int .i64 a) rfl
        have z2 := HB2.out.cell' (i := 2) (v := .int .i64 b) rfl
        go_wp2_with fail
        go_quiet ((go_at_call 26; first | (with_reducible exact quietW HNA.out) | (with_reducible exact quietW HNB.out)))
        go_wp2_with fail
        go_ret
        exact ⟨by rw [HG.out (by omega), show ([Go.Lib.itoa a, Go.Lib.itoa b].take 2) = [Go.Lib.itoa a, Go.Lib.itoa b] from rfl, join3_eq]; simp only [bs_app]; rfl, HC2.out.drewN _⟩
      | 1, _ =>
        have HCT1 : Hid (∀ w : World, Calls Tryd.prog 22 #[.int .i64 j] w (RetW (.int .i64 1) fun w' => Chg NoB w w')) := HCT
        cases b0 : (b == 0)
        · have b1 : (b != 0) = true := by simp only [bne, b0]; rfl
          go_enter Tryd.func10, Tryd.ntmps10
          go_wp2_with fail
          refine wp_region_take 5 [1, 2] [0, 3, 4] (fun w' => w'.cell? ⟨w.heap.size, 0, none⟩ = some (.int .i64 j)) (by kernel_rfl) (by kernel_rfl) (fun _ _ _ _ _ h => h) (by assumption) ?_
          simp only [pickOps_nil, pickOps_cons, Option.getD_some, List.getElem?_toArray, List.getElem?_cons_zero, List.getElem?_cons_succ, List.cons_append, List.nil_append, List.drop_succ_cons, List.drop_zero]
          repeat
            refine wpTake_cons' rfl ?_
            apply Exists.intro
            refine ⟨fun wS hS => ?_, ?_⟩
            · try dsimp only at hS
              obtain x0 := hS
              go_simp
              try rfl
            simp only [Act.put, List.setIfInBounds_toArray, List.set_cons_zero, List.set_cons_succ]
          refine wpTake_nil ?_
          refine wpForce_cons rfl (fun K hK => ?_)
          go_simp
          with_reducible refine (names2 j hj _).mono ?_
          rintro e wa ⟨rfl, Ca, nm⟩
          replace nm : wa.cell? ⟨w.heap.size + 1, j, none⟩ = some (.string ⟨(nameF j).toArray⟩) := by simpa using nm
          have y0 := Ca.cell (a := ⟨w.heap.size, 0, none⟩) (v := .int .i64 j) (by assumption) id
          refine hK _ _ y0 ?_
          clear hK K
          refine wpForce_cons rfl (fun K hK => ?_)
          go_simp
          refine hK _ _ y0 ?_
          clear hK K
          refine wpForce_cons rfl (fun K hK => ?_)
          go_simp
          refine hK _ _ y0 ?_
          clear hK K
          refine wpForce_nil ?_
          have HCA := Lib.hid (HC0.out.drew.step Ca)
          have HBA := Lib.hid (Ca.blk0 HB0.out.drew)
          clear x0 x1 x2 nm y0 Ca
          have z0 := HBA.out.cell' (i := 0) (v := .int .i64 j) rfl
          have z1 := HBA.out.cell' (i := 1) (v := .int .i64 a) rfl
          have z2 := HBA.out.cell' (i := 2) (v := .int .i64 b) rfl
          go_wp2_with fail
          with_reducible refine (HCT1.out _).mono ?_
          rintro e w2 ⟨rfl, C2⟩
          have HC2 := Lib.hid (HCA.out.step C2)
          have HB2 := Lib.hid (C2.blk0 HBA.out)
          clear C2 z0 z1 z2
          have z0 := HB2.out.cell' (i := 0) (v := .int .i64 j) rfl
          have z1 := HB2.out.cell' (i := 1) (v := .int .i64 a) rfl
          have z2 := HB2.out.cell' (i := 2) (v := .int .i64 b) rfl
          go_wp2_with fail
          go_ret
          exact ⟨by rw [HBAD.out (.inl ⟨by decide, ne_b0 b0⟩)]; rfl, HC2.out⟩
        · have b1 : (b != 0) = false := by simp only [bne, b0]; rfl
          go_enter Tryd.func10, Tryd.ntmps10
          go_wp2_with fail
          refine wp_region_take 5 [1, 2] [0, 3, 4] (fun w' => w'.cell? ⟨w.heap.size, 0, none⟩ = some (.int .i64 j)) (by kernel_rfl) (by kernel_rfl) (fun _ _ _ _ _ h => h) (by assumption) ?_
          simp only [pickOps_nil, pickOps_cons, Option.getD_some, List.getElem?_toArray, List.getElem?_cons_zero, List.getElem?_cons_succ, List.cons_append, List.nil_append, List.drop_succ_cons, List.drop_zero]
          repeat
            refine wpTake_cons' rfl ?_
            apply Exists.intro
            refine ⟨fun wS hS => ?_, ?_⟩
            · try dsimp only at hS
              obtain x0 := hS
              go_simp
              try rfl
            simp only [Act.put, List.setIfInBounds_toArray, List.set_cons_zero, List.set_cons_succ]
          refine wpTake_nil ?_
          refine wpForce_cons rfl (fun K hK => ?_)
          go_simp
          with_reducible refine (names2 j hj _).mono ?_
          rintro e wa ⟨rfl, Ca, nm⟩
          replace nm : wa.cell? ⟨w.heap.size + 1, j, none⟩ = some (.string ⟨(nameF j).toArray⟩) := by simpa using nm
          have y0 := Ca.cell (a := ⟨w.heap.size, 0, none⟩) (v := .int .i64 j) (by assumption) id
          refine hK _ _ y0 ?_
          clear hK K
          refine wpForce_cons rfl (fun K hK => ?_)
          go_simp
          refine hK _ _ y0 ?_
          clear hK K
          refine wpForce_cons rfl (fun K hK => ?_)
          go_simp
          refine hK _ _ y0 ?_
          clear hK K
          refine wpForce_nil ?_
          have HCA := Lib.hid (HC0.out.drew.step Ca)
          have HBA := Lib.hid (Ca.blk0 HB0.out.drew)
          clear x0 x1 x2 nm y0 Ca
          have z0 := HBA.out.cell' (i := 0) (v := .int .i64 j) rfl
          have z1 := HBA.out.cell' (i := 1) (v := .int .i64 a) rfl
          have z2 := HBA.out.cell' (i := 2) (v := .int .i64 b) rfl
          go_wp2_with fail
          with_reducible refine (HCT1.out _).mono ?_
          rintro e w2 ⟨rfl, C2⟩
          have HC2 := Lib.hid (HCA.out.step C2)
          have HB2 := Lib.hid (C2.blk0 HBA.out)
          clear C2 z0 z1 z2
          have z0 := HB2.out.cell' (i := 0) (v := .int .i64 j) rfl
          have z1 := HB2.out.cell' (i := 1) (v := .int .i64 a) rfl
          have z2 := HB2.out.cell' (i := 2) (v := .int .i64 b) rfl
          go_wp2_with fail
          with_reducible refine (HNA.out _).mono ?_
          rintro e w3 ⟨rfl, rfl⟩
          go_wp2_with fail
          go_ret
          exact ⟨by rw [HG.out (by intro h; rcases h with h | h; exact h.2 (of_b0 b0); omega), show ([Go.Lib.itoa a, Go.Lib.itoa b].take 1) = [Go.Lib.itoa a] from rfl, join2_eq]; simp only [bs_app]; rfl, HC2.out⟩
      | 0, _ =>
        have HCT1 : Hid (∀ w : World, Calls Tryd.prog 22 #[.int .i64 j] w (RetW (.int .i64 0) fun w' => Chg NoB w w')) := HCT
        cases a0 : (a == 0)
        · have a1 : (a != 0) = true := by simp only [bne, a0]; rfl
          go_enter Tryd.func10, Tryd.ntmps10
          go_wp2_with fail
          refine wp_region_take 5 [1, 2] [0, 3, 4] (fun w' => w'.cell? ⟨w.heap.size, 0, none⟩ = some (.int .i64 j)) (by kernel_rfl) (by kernel_rfl) (fun _ _ _ _ _ h => h) (by assumption) ?_
          simp only [pickOps_nil, pickOps_cons, Option.getD_some, List.getElem?_toArray, List.getElem?_cons_zero, List.getElem?_cons_succ, List.cons_append, List.nil_append, List.drop_succ_cons, List.drop_zero]
          repeat
            refine wpTake_cons' rfl ?_
            apply Exists.intro
            refine ⟨fun wS hS => ?_, ?_⟩
            · try dsimp only at hS
              obtain x0 := hS
              go_simp
              try rfl
            simp only [Act.put, List.setIfInBounds_toArray, List.set_cons_zero, List.set_cons_succ]
          refine wpTake_nil ?_
          refine wpForce_cons rfl (fun K hK => ?_)
          go_simp
          with_reducible refine (names2 j hj _).mono ?_
          rintro e wa ⟨rfl, Ca, nm⟩
          replace nm : wa.cell? ⟨w.heap.size + 1, j, none⟩ = some (.string ⟨(nameF j).toArray⟩) := by simpa using nm
          have y0 := Ca.cell (a := ⟨w.heap.size, 0, none⟩) (v := .int .i64 j) (by assumption) id
          refine hK _ _ y0 ?_
          clear hK K
          refine wpForce_cons rfl (fun K hK => ?_)
          go_simp
          refine hK _ _ y0 ?_
          clear hK K
          refine wpForce_cons rfl (fun K hK => ?_)
          go_simp
          refine hK _ _ y0 ?_
          clear hK K
          refine wpForce_nil ?_
          have HCA := Lib.hid (HC0.out.drew.step Ca)
          have HBA := Lib.hid (Ca.blk0 HB0.out.drew)
          clear x0 x1 x2 nm y0 Ca
          have z0 := HBA.out.cell' (i := 0) (v := .int .i64 j) rfl
          have z1 := HBA.out.cell' (i := 1) (v := .int .i64 a) rfl
          have z2 := HBA.out.cell' (i := 2) (v := .int .i64 b) rfl
          go_wp2_with fail
          with_reducible refine (HCT1.out _).mono ?_
          rintro e w2 ⟨rfl, C2⟩
          have HC2 := Lib.hid (HCA.out.step C2)
          have HB2 := Lib.hid (C2.blk0 HBA.out)
          clear C2 z0 z1 z2
          have z0 := HB2.out.cell' (i := 0) (v := .int .i64 j) rfl
          have z1 := HB2.out.cell' (i := 1) (v := .int .i64 a) rfl
          have z2 := HB2.out.cell' (i := 2) (v := .int .i64 b) rfl
          go_wp2_with fail
          go_ret
          exact ⟨by rw [HBAD.out (.inr ⟨by decide, ne_b0 a0⟩)]; rfl, HC2.out⟩
        · have a1 : (a != 0) = false := by simp only [bne, a0]; rfl
          cases b0 : (b == 0)
          · have b1 : (b != 0) = true := by simp only [bne, b0]; rfl
            go_enter Tryd.func10, Tryd.ntmps10
            go_wp2_with fail
            refine wp_region_take 5 [1, 2] [0, 3, 4] (fun w' => w'.cell? ⟨w.heap.size, 0, none⟩ = some (.int .i64 j)) (by kernel_rfl) (by kernel_rfl) (fun _ _ _ _ _ h => h) (by assumption) ?_
            simp only [pickOps_nil, pickOps_cons, Option.getD_some, List.getElem?_toArray, List.getElem?_cons_zero, List.getElem?_cons_succ, List.cons_append, List.nil_append, List.drop_succ_cons, List.drop_zero]
            repeat
              refine wpTake_cons' rfl ?_
              apply Exists.intro
              refine ⟨fun wS hS => ?_, ?_⟩
              · try dsimp only at hS
                obtain x0 := hS
                go_simp
                try rfl
              simp only [Act.put, List.setIfInBounds_toArray, List.set_cons_zero, List.set_cons_succ]
            refine wpTake_nil ?_
            refine wpForce_cons rfl (fun K hK => ?_)
            go_simp
            with_reducible refine (names2 j hj _).mono ?_
            rintro e wa ⟨rfl, Ca, nm⟩
            replace nm : wa.cell? ⟨w.heap.size + 1, j, none⟩ = some (.string ⟨(nameF j).toArray⟩) := by simpa using nm
            have y0 := Ca.cell (a := ⟨w.heap.size, 0, none⟩) (v := .int .i64 j) (by assumption) id
            refine hK _ _ y0 ?_
            clear hK K
            refine wpForce_cons rfl (fun K hK => ?_)
            go_simp
            refine hK _ _ y0 ?_
            clear hK K
            refine wpForce_cons rfl (fun K hK => ?_)
            go_simp
            refine hK _ _ y0 ?_
            clear hK K
            refine wpForce_nil ?_
            have HCA := Lib.hid (HC0.out.drew.step Ca)
            have HBA := Lib.hid (Ca.blk0 HB0.out.drew)
            clear x0 x1 x2 nm y0 Ca
            have z0 := HBA.out.cell' (i := 0) (v := .int .i64 j) rfl
            have z1 := HBA.out.cell' (i := 1) (v := .int .i64 a) rfl
            have z2 := HBA.out.cell' (i := 2) (v := .int .i64 b) rfl
            go_wp2_with fail
            with_reducible refine (HCT1.out _).mono ?_
            rintro e w2 ⟨rfl, C2⟩
            have HC2 := Lib.hid (HCA.out.step C2)
            have HB2 := Lib.hid (C2.blk0 HBA.out)
            clear C2 z0 z1 z2
            have z0 := HB2.out.cell' (i := 0) (v := .int .i64 j) rfl
            have z1 := HB2.out.cell' (i := 1) (v := .int .i64 a) rfl
            have z2 := HB2.out.cell' (i := 2) (v := .int .i64 b) rfl
            go_wp2_with fail
            go_ret
            exact ⟨by rw [HBAD.out (.inl ⟨by decide, ne_b0 b0⟩)]; rfl, HC2.out⟩
          · have b1 : (b != 0) = false := by simp only [bne, b0]; rfl
            go_enter Tryd.func10, Tryd.ntmps10
            go_wp2_with fail
            refine wp_region_take 5 [1, 2] [0, 3, 4] (fun w' => w'.cell? ⟨w.heap.size, 0, none⟩ = some (.int .i64 j)) (by kernel_rfl) (by kernel_rfl) (fun _ _ _ _ _ h => h) (by assumption) ?_
            simp only [pickOps_nil, pickOps_cons, Option.getD_some, List.getElem?_toArray, List.getElem?_cons_zero, List.getElem?_cons_succ, List.cons_append, List.nil_append, List.drop_succ_cons, List.drop_zero]
            repeat
              refine wpTake_cons' rfl ?_
              apply Exists.intro
              refine ⟨fun wS hS => ?_, ?_⟩
              · try dsimp only at hS
                obtain x0 := hS
                go_simp
                try rfl
              simp only [Act.put, List.setIfInBounds_toArray, List.set_cons_zero, List.set_cons_succ]
            refine wpTake_nil ?_
            refine wpForce_cons rfl (fun K hK => ?_)
            go_simp
            with_reducible refine (names2 j hj _).mono ?_
            rintro e wa ⟨rfl, Ca, nm⟩
            replace nm : wa.cell? ⟨w.heap.size + 1, j, none⟩ = some (.string ⟨(nameF j).toArray⟩) := by simpa using nm
            have y0 := Ca.cell (a := ⟨w.heap.size, 0, none⟩) (v := .int .i64 j) (by assumption) id
            refine hK _ _ y0 ?_
            clear hK K
            refine wpForce_cons rfl (fun K hK => ?_)
            go_simp
            refine hK _ _ y0 ?_
            clear hK K
            refine wpForce_cons rfl (fun K hK => ?_)
            go_simp
            refine hK _ _ y0 ?_
            clear hK K
            refine wpForce_nil ?_
            have HCA := Lib.hid (HC0.out.drew.step Ca)
            have HBA := Lib.hid (Ca.blk0 HB0.out.drew)
            clear x0 x1 x2 nm y0 Ca
            have z0 := HBA.out.cell' (i := 0) (v := .int .i64 j) rfl
            have z1 := HBA.out.cell' (i := 1) (v := .int .i64 a) rfl
            have z2 := HBA.out.cell' (i := 2) (v := .int .i64 b) rfl
            go_wp2_with fail
            with_reducible refine (HCT1.out _).mono ?_
            rintro e w2 ⟨rfl, C2⟩
            have HC2 := Lib.hid (HCA.out.step C2)
            have HB2 := Lib.hid (C2.blk0 HBA.out)
            clear C2 z0 z1 z2
            have z0 := HB2.out.cell' (i := 0) (v := .int .i64 j) rfl
            have z1 := HB2.out.cell' (i := 1) (v := .int .i64 a) rfl
            have z2 := HB2.out.cell' (i := 2) (v := .int .i64 b) rfl
            go_wp2_with fail
            go_ret
            exact ⟨by rw [HG.out (by intro h; rcases h with h | h; exact h.2 (of_b0 b0); exact h.2 (of_b0 a0)), show ([Go.Lib.itoa a, Go.Lib.itoa b].take 0) = [] from rfl, join1_eq]; rfl, HC2.out⟩
    · have HBAD := Lib.hid (actF_out (a := (k, a, b)) (.inr (by have := of_decide_eq_true k1; show 6 < k; omega)))
      go_enter Tryd.func10, Tryd.ntmps10
      go_wp2_with fail
      go_ret
      exact ⟨by rw [HBAD.out]; rfl, HC0.out⟩
  · have HBAD := Lib.hid (actF_out (a := (k, a, b)) (.inl (of_decide_eq_true k0)))
    go_enter Tryd.func10, Tryd.ntmps10
    go_wp2_with fail
    go_ret
    exact ⟨by rw [HBAD.out]; rfl, HC0.out⟩
end Go.Proofs.YtfidiiifcmmffaaDoor
