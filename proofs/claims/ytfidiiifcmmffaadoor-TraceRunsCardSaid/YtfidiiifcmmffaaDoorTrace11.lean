/- An act's text, by the program. No condition. -/
import Derived.Test.YtfidiiifcmmffaaDoorTrace10
set_option linter.unusedVariables false
set_option linter.unusedSimpArgs false
namespace Go.Proofs.YtfidiiifcmmffaaDoor
open Go.RowKit Go.RR

theorem shapes_at (k : Nat) (hk : k < 7) : shapesL.toArray[k * 2]? = some (.string ⟨(nameF k).toArray⟩) ∧ shapesL.toArray[k * 2 + 1]? = some (.int .i64 (cntF k)) := by
  match k, hk with
  | 0, _ => exact ⟨rfl, rfl⟩
  | 1, _ => exact ⟨rfl, rfl⟩
  | 2, _ => exact ⟨rfl, rfl⟩
  | 3, _ => exact ⟨rfl, rfl⟩
  | 4, _ => exact ⟨rfl, rfl⟩
  | 5, _ => exact ⟨rfl, rfl⟩
  | 6, _ => exact ⟨rfl, rfl⟩
theorem actF_out {a : Ac} (h : a.1 < 0 ∨ 6 < a.1) : actF a = [] := by unfold actF wordsOf; rw [if_pos h]
theorem actF_bad {k : Nat} {x y : Int} (hk : k < 7) (h : (cntF k < 2 ∧ y ≠ 0) ∨ (cntF k < 1 ∧ x ≠ 0)) : actF (k, x, y) = [] := by
  unfold actF wordsOf
  simp only [Int.toNat_natCast]
  rw [if_neg (by omega), if_pos h]
theorem actF_good {k : Nat} {x y : Int} (hk : k < 7) (h : ¬ ((cntF k < 2 ∧ y ≠ 0) ∨ (cntF k < 1 ∧ x ≠ 0))) : actF (k, x, y) = Go.Lib.join (nameF k :: [Go.Lib.itoa x, Go.Lib.itoa y].take (cntF k)) [32] := by
  unfold actF wordsOf
  simp only [Int.toNat_natCast]
  rw [if_neg (by omega), if_neg h]
theorem itoa_len {n : Int} (h : i64 n) : (Go.Lib.itoa n).length ≤ 21 := by
  obtain ⟨h1, h2⟩ := h
  have e : (10 : Nat) ^ (19 + 1) = 100000000000000000000 := by decide
  unfold Go.Lib.itoa
  split
  · rw [List.length_cons]
    have := dec_len 19 n.natAbs (by omega)
    omega
  · have := dec_len 19 n.toNat (by omega)
    omega
theorem name_len {k : Nat} (h : k < 7) : (nameF k).length ≤ 7 := by
  have : ∀ k < 7, (nameF k).length ≤ 7 := by decide
  exact this k h
theorem shapes_x : shapesL.toArray = #[.string ⟨#[114, 117, 110]⟩, .int .i64 2, .string ⟨#[100, 101, 108, 105, 118, 101, 114]⟩, .int .i64 1, .string ⟨#[100, 114, 111, 112]⟩, .int .i64 1, .string ⟨#[100, 111, 117, 98, 108, 101]⟩, .int .i64 1, .string ⟨#[116, 117, 114, 110]⟩, .int .i64 2, .string ⟨#[99, 117, 116]⟩, .int .i64 2, .string ⟨#[116, 105, 99, 107]⟩, .int .i64 0] := rfl
theorem join1 (x : Bs) (c : UInt8) : (Go.Lib.join [x] [c]).length = x.length := by rw [Go.Lib.join_one]
theorem join2 (x y : Bs) (c : UInt8) : (Go.Lib.join [x, y] [c]).length = x.length + y.length + 1 := by
  rw [Go.Lib.join_cons]
  show (x ++ (([c] ++ y) ++ [])).length = _
  simp; omega
theorem join3 (x y z : Bs) (c : UInt8) : (Go.Lib.join [x, y, z] [c]).length = x.length + y.length + z.length + 2 := by
  rw [Go.Lib.join_cons]
  show (x ++ (([c] ++ y) ++ (([c] ++ z) ++ []))).length = _
  simp; omega
theorem of_b0 {b : Int} (h : (b == 0) = true) : b = 0 := by simpa using h
theorem ne_b0 {b : Int} (h : (b == 0) = false) : b ≠ 0 := by simpa using h
set_option maxHeartbeats 4000000 in
set_option maxRecDepth 100000 in
theorem tact_any (k a b : Int) (w : World) (ha : i64 a) (hb : i64 b) (hk : i64 k) (L : Lb w) : Calls Tryd.prog 9 #[.agg #[.int .i64 k, .int .i64 a, .int .i64 b]] w (RetW (.string ⟨(actF (k, a, b)).toArray⟩) fun w' => Chg NoB w w') := by
  have HC0 := Lib.hid ((Chg.refl NoB w).alloc (.cells #[.int .i64 k, .int .i64 a, .int .i64 b] 23))
  have HB0 := Lib.hid (Blk.new w #[.int .i64 k, .int .i64 a, .int .i64 b] 23)
  have H0 := Lib.hid (shapes_any (w.alloc (.cells #[.int .i64 k, .int .i64 a, .int .i64 b] 23)))
  rw [shapes_x] at H0
  have HL := Lib.hid L
  have HIA := Lib.hid ha
  have HIB := Lib.hid hb
  unfold i64 at hk
  clear L ha hb
  go_enter Tryd.func9, Tryd.ntmps9
  go_wp2_with fail
  with_reducible refine H0.out.mono ?_
  rintro e w1 ⟨rfl, C1⟩
  have HC1 := Lib.hid ((HC0.out.step C1).alloc (.cells shapesL.toArray 56))
  have HB1 := Lib.hid ((C1.blk0 HB0.out).alloc (.cells shapesL.toArray 56))
  have HS1 := Lib.hid (Blk.new w1 shapesL.toArray 56)
  have HSA := Lib.hid shapes_x
  have x0 := HB1.out.cell' (i := 0) (v := .int .i64 k) rfl
  have x1 := HB1.out.cell' (i := 1) (v := .int .i64 a) rfl
  have x2 := HB1.out.cell' (i := 2) (v := .int .i64 b) rfl
  have hlt1 : w.heap.size < w1.heap.size := by have := C1.size; simp at this; omega
  clear C1
  rw [shapes_x] at x0 x1 x2
  cases k0 : decide (k < 0)
  · cases k1 : decide (7 ≤ k)
    · obtain ⟨j, rfl⟩ : ∃ j : Nat, k = j := ⟨k.toNat, by have := of_decide_eq_false k0; omega⟩
      have hj : j < 7 := by have := of_decide_eq_false k1; omega
      have hj0 : (0 : Int) ≤ j := by omega
      have hj1 : (j : Int) < 7 := by omega
      have y0 := HS1.out.cell' (shapes_at j hj).1
      have y1 := HS1.out.cell' (shapes_at j hj).2
      obtain ⟨c, hc⟩ : ∃ c, cntF j = c := ⟨_, rfl⟩
      have hc2 := cnt_le hj
      rw [shapes_x] at y0 y1
      rw [hc] at y1 hc2
      have HG := Lib.hid fun h => actF_good (k := j) (x := a) (y := b) hj h
      have HBAD := Lib.hid fun h => actF_bad (k := j) (x := a) (y := b) hj h
      rw [hc] at HG HBAD
      match c, hc2 with
      | 2, _ =>
        have cX := ((HC1.out.alloc (.cells #[.string ⟨(nameF j).toArray⟩, .int .i64 2] 55))).drew
        have BX := Lib.hid (Blk.new (w1.alloc (.cells shapesL.toArray 56)) #[.string ⟨(nameF j).toArray⟩, .int .i64 2] 55)
        have z0 := (BX.out.drew).cell' (i := 0) (v := .string ⟨(nameF j).toArray⟩) rfl
        have z3 := (BX.out.drew).cell' (i := 1) (v := .int .i64 2) rfl
        have z1 := ((HB1.out.alloc (.cells #[.string ⟨(nameF j).toArray⟩, .int .i64 2] 55)).drew).cell' (i := 1) (v := .int .i64 a) rfl
        have z2 := ((HB1.out.alloc (.cells #[.string ⟨(nameF j).toArray⟩, .int .i64 2] 55)).drew).cell' (i := 2) (v := .int .i64 b) rfl
        have esz : (w1.alloc (.cells shapesL.toArray 56)).heap.size = w1.heap.size + 1 := by simp
        rw [esz] at z0 z3
        rw [shapes_x] at z0 z1 z2 z3 cX
        have ZX := Lib.hid (And.intro z0 (And.intro z1 (And.intro z2 (And.intro z3 cX))))
        clear z0 z1 z2 z3 cX esz
        go_wp2_with fail
        obtain ⟨z0, z1, z2, z3, cX⟩ := ZX.out
        go_region_held3 (fun w' => w'.cell? ⟨w1.heap.size + 1, 0, none⟩ = some (.string ⟨(nameF j).toArray⟩) ∧ w'.cell? ⟨w.heap.size, 1, none⟩ = some (.int .i64 a) ∧ w'.cell? ⟨w.heap.size, 2, none⟩ = some (.int .i64 b) ∧ w'.cell? ⟨w1.heap.size + 1, 1, none⟩ = some (.int .i64 2) ∧ Chg NoB w w') (first | exact ⟨by assumption, by assumption, by assumption, by assumption, by assumption⟩ | exact ⟨((Chg.refl NoB _).alloc _).cell (by assumption) id, ((Chg.refl NoB _).alloc _).cell (by assumption) id, ((Chg.refl NoB _).alloc _).cell (by assumption) id, ((Chg.refl NoB _).alloc _).cell (by assumption) id, Chg.alloc (by assumption) _⟩)
          ((go_at_call 24; (first | (with_reducible refine (tnum_any a _ HIA.out (HL.out.chg0 (by assumption))).mono ?_) | (with_reducible refine (tnum_any b _ HIB.out (HL.out.chg0 (by assumption))).mono ?_)); rintro e wa ⟨rfl, Ca⟩; have z0 := Ca.cell (a := ⟨w1.heap.size + 1, 0, none⟩) (v := .string ⟨(nameF j).toArray⟩) (by assumption) id; have z1 := Ca.cell (a := ⟨w.heap.size, 1, none⟩) (v := .int .i64 a) (by assumption) id; have z2 := Ca.cell (a := ⟨w.heap.size, 2, none⟩) (v := .int .i64 b) (by assumption) id; have z3 := Ca.cell (a := ⟨w1.heap.size + 1, 1, none⟩) (v := .int .i64 2) (by assumption) id; have cY : Chg NoB w wa := Chg.step (by assumption) Ca))
        all_goals
          have HY := Lib.hid (cY.alloc (.cells #[.string ⟨(nameF j).toArray⟩, .string ⟨(Go.Lib.itoa a).toArray⟩, .string ⟨(Go.Lib.itoa b).toArray⟩] 9))
          have HBL := Blk.new wa #[.string ⟨(nameF j).toArray⟩, .string ⟨(Go.Lib.itoa a).toArray⟩, .string ⟨(Go.Lib.itoa b).toArray⟩] 9
          have n3 := ((Chg.refl NoB wa).alloc (.cells #[.string ⟨(nameF j).toArray⟩, .string ⟨(Go.Lib.itoa a).toArray⟩, .string ⟨(Go.Lib.itoa b).toArray⟩] 9)).cell z3 id
          have HJ := Lib.hid (Tryd.strings_Join wa.heap.size 0 3 [⟨(nameF j).toArray⟩, ⟨(Go.Lib.itoa a).toArray⟩, ⟨(Go.Lib.itoa b).toArray⟩] ⟨#[32]⟩ (wa.alloc (.cells #[.string ⟨(nameF j).toArray⟩, .string ⟨(Go.Lib.itoa a).toArray⟩, .string ⟨(Go.Lib.itoa b).toArray⟩] 9))
            (fun i x hx => by
              match i, hx with
              | 0, hx => cases hx; exact HBL.cell' (i := 0) rfl
              | 1, hx => cases hx; exact HBL.cell' (i := 1) rfl
              | 2, hx => cases hx; exact HBL.cell' (i := 2) rfl
              | i + 3, hx => simp at hx)
            (by simp) (by simp) (by simp) (by
              have h1 := name_len hj
              have h2 := itoa_len HIA.out
              have h3 := itoa_len HIB.out
              show (Go.Lib.join [nameF j, Go.Lib.itoa a, Go.Lib.itoa b] [32]).length ≤ _
              rw [join3]
              omega))
          simp only [List.length_cons, List.length_nil, Nat.zero_add, Nat.reduceAdd] at HJ
          clear HBL z0 z1 z2 z3 cY
          go_wp2_with fail
          with_reducible refine HJ.out.mono ?_
          rintro e w5 ⟨rfl, hb5⟩
          have HZ := Lib.hid (HY.out.step (chg_of_below hb5))
          clear hb5
          go_wp2_with fail
          go_ret
          exact ⟨by rw [HG.out (by omega)]; rfl, HZ.out⟩
      | 1, _ =>
        replace y1 : (w1.alloc (.cells #[.string ⟨#[114, 117, 110]⟩, .int .i64 2, .string ⟨#[100, 101, 108, 105, 118, 101, 114]⟩, .int .i64 1, .string ⟨#[100, 114, 111, 112]⟩, .int .i64 1, .string ⟨#[100, 111, 117, 98, 108, 101]⟩, .int .i64 1, .string ⟨#[116, 117, 114, 110]⟩, .int .i64 2, .string ⟨#[99, 117, 116]⟩, .int .i64 2, .string ⟨#[116, 105, 99, 107]⟩, .int .i64 0] 56)).cell? ⟨w1.heap.size, j * 2 + 1, none⟩ = some (.int .i64 1) := y1
        cases b0 : (b == 0)
        · have b1 : (b != 0) = true := by simp only [bne, b0]; rfl
          have HW := Lib.hid (HC1.out.alloc (.cells #[.string ⟨(nameF j).toArray⟩, .int .i64 1] 55))
          rw [shapes_x] at HW
          go_wp2_with fail
          go_ret
          exact ⟨by rw [HBAD.out (.inl ⟨by decide, ne_b0 b0⟩)]; rfl, HW.out⟩
        · have b1 : (b != 0) = false := by simp only [bne, b0]; rfl
          have cX := ((HC1.out.alloc (.cells #[.string ⟨(nameF j).toArray⟩, .int .i64 1] 55))).drew
          have BX := Lib.hid (Blk.new (w1.alloc (.cells shapesL.toArray 56)) #[.string ⟨(nameF j).toArray⟩, .int .i64 1] 55)
          have z0 := (BX.out.drew).cell' (i := 0) (v := .string ⟨(nameF j).toArray⟩) rfl
          have z3 := (BX.out.drew).cell' (i := 1) (v := .int .i64 1) rfl
          have z1 := ((HB1.out.alloc (.cells #[.string ⟨(nameF j).toArray⟩, .int .i64 1] 55)).drew).cell' (i := 1) (v := .int .i64 a) rfl
          have z2 := ((HB1.out.alloc (.cells #[.string ⟨(nameF j).toArray⟩, .int .i64 1] 55)).drew).cell' (i := 2) (v := .int .i64 b) rfl
          have esz : (w1.alloc (.cells shapesL.toArray 56)).heap.size = w1.heap.size + 1 := by simp
          rw [esz] at z0 z3
          rw [shapes_x] at z0 z1 z2 z3 cX
          have ZX := Lib.hid (And.intro z0 (And.intro z1 (And.intro z2 (And.intro z3 cX))))
          clear z0 z1 z2 z3 cX esz
          go_wp2_with fail
          obtain ⟨z0, z1, z2, z3, cX⟩ := ZX.out
          go_region_held3 (fun w' => w'.cell? ⟨w1.heap.size + 1, 0, none⟩ = some (.string ⟨(nameF j).toArray⟩) ∧ w'.cell? ⟨w.heap.size, 1, none⟩ = some (.int .i64 a) ∧ w'.cell? ⟨w.heap.size, 2, none⟩ = some (.int .i64 b) ∧ w'.cell? ⟨w1.heap.size + 1, 1, none⟩ = some (.int .i64 1) ∧ Chg NoB w w') (first | exact ⟨by assumption, by assumption, by assumption, by assumption, by assumption⟩ | exact ⟨((Chg.refl NoB _).alloc _).cell (by assumption) id, ((Chg.refl NoB _).alloc _).cell (by assumption) id, ((Chg.refl NoB _).alloc _).cell (by assumption) id, ((Chg.refl NoB _).alloc _).cell (by assumption) id, Chg.alloc (by assumption) _⟩)
            ((go_at_call 24; (first | (with_reducible refine (tnum_any a _ HIA.out (HL.out.chg0 (by assumption))).mono ?_) | (with_reducible refine (tnum_any b _ HIB.out (HL.out.chg0 (by assumption))).mono ?_)); rintro e wa ⟨rfl, Ca⟩; have z0 := Ca.cell (a := ⟨w1.heap.size + 1, 0, none⟩) (v := .string ⟨(nameF j).toArray⟩) (by assumption) id; have z1 := Ca.cell (a := ⟨w.heap.size, 1, none⟩) (v := .int .i64 a) (by assumption) id; have z2 := Ca.cell (a := ⟨w.heap.size, 2, none⟩) (v := .int .i64 b) (by assumption) id; have z3 := Ca.cell (a := ⟨w1.heap.size + 1, 1, none⟩) (v := .int .i64 1) (by assumption) id; have cY : Chg NoB w wa := Chg.step (by assumption) Ca))
          all_goals
            have HY := Lib.hid (cY.alloc (.cells #[.string ⟨(nameF j).toArray⟩, .string ⟨(Go.Lib.itoa a).toArray⟩, .string ⟨(Go.Lib.itoa b).toArray⟩] 9))
            have HBL := Blk.new wa #[.string ⟨(nameF j).toArray⟩, .string ⟨(Go.Lib.itoa a).toArray⟩, .string ⟨(Go.Lib.itoa b).toArray⟩] 9
            have n3 := ((Chg.refl NoB wa).alloc (.cells #[.string ⟨(nameF j).toArray⟩, .string ⟨(Go.Lib.itoa a).toArray⟩, .string ⟨(Go.Lib.itoa b).toArray⟩] 9)).cell z3 id
            have HJ := Lib.hid (Tryd.strings_Join wa.heap.size 0 3 [⟨(nameF j).toArray⟩, ⟨(Go.Lib.itoa a).toArray⟩] ⟨#[32]⟩ (wa.alloc (.cells #[.string ⟨(nameF j).toArray⟩, .string ⟨(Go.Lib.itoa a).toArray⟩, .string ⟨(Go.Lib.itoa b).toArray⟩] 9))
              (fun i x hx => by
                match i, hx with
                | 0, hx => cases hx; exact HBL.cell' (i := 0) rfl
                | 1, hx => cases hx; exact HBL.cell' (i := 1) rfl
                | i + 2, hx => simp at hx)
              (by simp) (by simp) (by simp) (by
                have h1 := name_len hj
                have h2 := itoa_len HIA.out
                have h3 := itoa_len HIB.out
                show (Go.Lib.join [nameF j, Go.Lib.itoa a] [32]).length ≤ _
                rw [join2]
                omega))
            simp only [List.length_cons, List.length_nil, Nat.zero_add, Nat.reduceAdd] at HJ
            clear HBL z0 z1 z2 z3 cY
            go_wp2_with fail
            with_reducible refine HJ.out.mono ?_
            rintro e w5 ⟨rfl, hb5⟩
            have HZ := Lib.hid (HY.out.step (chg_of_below hb5))
            clear hb5
            go_wp2_with fail
            go_ret
            exact ⟨by rw [HG.out (by intro h; rcases h with h | h; exact h.2 (of_b0 b0); omega)]; rfl, HZ.out⟩
      | 0, _ =>
        replace y1 : (w1.alloc (.cells #[.string ⟨#[114, 117, 110]⟩, .int .i64 2, .string ⟨#[100, 101, 108, 105, 118, 101, 114]⟩, .int .i64 1, .string ⟨#[100, 114, 111, 112]⟩, .int .i64 1, .string ⟨#[100, 111, 117, 98, 108, 101]⟩, .int .i64 1, .string ⟨#[116, 117, 114, 110]⟩, .int .i64 2, .string ⟨#[99, 117, 116]⟩, .int .i64 2, .string ⟨#[116, 105, 99, 107]⟩, .int .i64 0] 56)).cell? ⟨w1.heap.size, j * 2 + 1, none⟩ = some (.int .i64 0) := y1
        cases b0 : (b == 0)
        · have b1 : (b != 0) = true := by simp only [bne, b0]; rfl
          have HW := Lib.hid (HC1.out.alloc (.cells #[.string ⟨(nameF j).toArray⟩, .int .i64 0] 55))
          rw [shapes_x] at HW
          go_wp2_with fail
          go_ret
          exact ⟨by rw [HBAD.out (.inl ⟨by decide, ne_b0 b0⟩)]; rfl, HW.out⟩
        · have b1 : (b != 0) = false := by simp only [bne, b0]; rfl
          cases a0 : (a == 0)
          · have a1 : (a != 0) = true := by simp only [bne, a0]; rfl
            have HW := Lib.hid (HC1.out.alloc (.cells #[.string ⟨(nameF j).toArray⟩, .int .i64 0] 55))
            rw [shapes_x] at HW
            go_wp2_with fail
            go_ret
            exact ⟨by rw [HBAD.out (.inr ⟨by decide, ne_b0 a0⟩)]; rfl, HW.out⟩
          · have a1 : (a != 0) = false := by simp only [bne, a0]; rfl
            have cX := ((HC1.out.alloc (.cells #[.string ⟨(nameF j).toArray⟩, .int .i64 0] 55))).drew
            have BX := Lib.hid (Blk.new (w1.alloc (.cells shapesL.toArray 56)) #[.string ⟨(nameF j).toArray⟩, .int .i64 0] 55)
            have z0 := (BX.out.drew).cell' (i := 0) (v := .string ⟨(nameF j).toArray⟩) rfl
            have z3 := (BX.out.drew).cell' (i := 1) (v := .int .i64 0) rfl
            have z1 := ((HB1.out.alloc (.cells #[.string ⟨(nameF j).toArray⟩, .int .i64 0] 55)).drew).cell' (i := 1) (v := .int .i64 a) rfl
            have z2 := ((HB1.out.alloc (.cells #[.string ⟨(nameF j).toArray⟩, .int .i64 0] 55)).drew).cell' (i := 2) (v := .int .i64 b) rfl
            have esz : (w1.alloc (.cells shapesL.toArray 56)).heap.size = w1.heap.size + 1 := by simp
            rw [esz] at z0 z3
            rw [shapes_x] at z0 z1 z2 z3 cX
            have ZX := Lib.hid (And.intro z0 (And.intro z1 (And.intro z2 (And.intro z3 cX))))
            clear z0 z1 z2 z3 cX esz
            go_wp2_with fail
            obtain ⟨z0, z1, z2, z3, cX⟩ := ZX.out
            go_region_held3 (fun w' => w'.cell? ⟨w1.heap.size + 1, 0, none⟩ = some (.string ⟨(nameF j).toArray⟩) ∧ w'.cell? ⟨w.heap.size, 1, none⟩ = some (.int .i64 a) ∧ w'.cell? ⟨w.heap.size, 2, none⟩ = some (.int .i64 b) ∧ w'.cell? ⟨w1.heap.size + 1, 1, none⟩ = some (.int .i64 0) ∧ Chg NoB w w') (first | exact ⟨by assumption, by assumption, by assumption, by assumption, by assumption⟩ | exact ⟨((Chg.refl NoB _).alloc _).cell (by assumption) id, ((Chg.refl NoB _).alloc _).cell (by assumption) id, ((Chg.refl NoB _).alloc _).cell (by assumption) id, ((Chg.refl NoB _).alloc _).cell (by assumption) id, Chg.alloc (by assumption) _⟩)
              ((go_at_call 24; (first | (with_reducible refine (tnum_any a _ HIA.out (HL.out.chg0 (by assumption))).mono ?_) | (with_reducible refine (tnum_any b _ HIB.out (HL.out.chg0 (by assumption))).mono ?_)); rintro e wa ⟨rfl, Ca⟩; have z0 := Ca.cell (a := ⟨w1.heap.size + 1, 0, none⟩) (v := .string ⟨(nameF j).toArray⟩) (by assumption) id; have z1 := Ca.cell (a := ⟨w.heap.size, 1, none⟩) (v := .int .i64 a) (by assumption) id; have z2 := Ca.cell (a := ⟨w.heap.size, 2, none⟩) (v := .int .i64 b) (by assumption) id; have z3 := Ca.cell (a := ⟨w1.heap.size + 1, 1, none⟩) (v := .int .i64 0) (by assumption) id; have cY : Chg NoB w wa := Chg.step (by assumption) Ca))
            all_goals
              have HY := Lib.hid (cY.alloc (.cells #[.string ⟨(nameF j).toArray⟩, .string ⟨(Go.Lib.itoa a).toArray⟩, .string ⟨(Go.Lib.itoa b).toArray⟩] 9))
              have HBL := Blk.new wa #[.string ⟨(nameF j).toArray⟩, .string ⟨(Go.Lib.itoa a).toArray⟩, .string ⟨(Go.Lib.itoa b).toArray⟩] 9
              have n3 := ((Chg.refl NoB wa).alloc (.cells #[.string ⟨(nameF j).toArray⟩, .string ⟨(Go.Lib.itoa a).toArray⟩, .string ⟨(Go.Lib.itoa b).toArray⟩] 9)).cell z3 id
              have HJ := Lib.hid (Tryd.strings_Join wa.heap.size 0 3 [⟨(nameF j).toArray⟩] ⟨#[32]⟩ (wa.alloc (.cells #[.string ⟨(nameF j).toArray⟩, .string ⟨(Go.Lib.itoa a).toArray⟩, .string ⟨(Go.Lib.itoa b).toArray⟩] 9))
                (fun i x hx => by
                  match i, hx with
                  | 0, hx => cases hx; exact HBL.cell' (i := 0) rfl
                  | i + 1, hx => simp at hx)
                (by simp) (by simp) (by simp) (by
                  have h1 := name_len hj
                  have h2 := itoa_len HIA.out
                  have h3 := itoa_len HIB.out
                  show (Go.Lib.join [nameF j] [32]).length ≤ _
                  rw [join1]
                  omega))
              simp only [List.length_cons, List.length_nil, Nat.zero_add, Nat.reduceAdd] at HJ
              clear HBL z0 z1 z2 z3 cY
              go_wp2_with fail
              with_reducible refine HJ.out.mono ?_
              rintro e w5 ⟨rfl, hb5⟩
              have HZ := Lib.hid (HY.out.step (chg_of_below hb5))
              clear hb5
              go_wp2_with fail
              go_ret
              exact ⟨by rw [HG.out (by intro h; rcases h with h | h; exact h.2 (of_b0 b0); exact h.2 (of_b0 a0))]; rfl, HZ.out⟩
    · have HBAD := Lib.hid (actF_out (a := (k, a, b)) (.inr (by have := of_decide_eq_true k1; show 6 < k; omega)))
      go_wp2_with fail
      go_ret
      exact ⟨by rw [HBAD.out]; rfl, by have := HC1.out; rw [shapes_x] at this; exact this⟩
  · have HBAD := Lib.hid (actF_out (a := (k, a, b)) (.inl (of_decide_eq_true k0)))
    go_wp2_with fail
    go_ret
    exact ⟨by rw [HBAD.out]; rfl, by have := HC1.out; rw [shapes_x] at this; exact this⟩
end Go.Proofs.YtfidiiifcmmffaaDoor
