/- RingPlays returns true, whatever it is given. -/
import Derived.Test.YtokigldggkkbcaaRingLaw
set_option linter.unusedVariables false
namespace Go.Proofs.Ytokigldggkkbcaa
open Go.RowKit Go.RR

theorem RefAt.cells {S : Nat → Prop} {w : World} {b : Nat} {xs : List Int} {room : Nat} (h : RefAt S w b xs room) :
    ∃ p cap, w.cell? ⟨b, 0, none⟩ = some (.slice p xs.length cap) ∧ w.cell? ⟨b, 1, none⟩ = some (.int .i64 room) ∧ (∀ (j : Nat) (x : Int), xs[j]? = some x → ∃ g off, p = some ⟨g, off, none⟩ ∧ w.cell? ⟨g, off + j, none⟩ = some (.int .i64 x)) ∧ Sl w S 1 (.slice p xs.length cap) xs.length (xs.map (Value.int .i64)) := by
  obtain ⟨v, hb, hB, hv, h1, h2⟩ := h
  obtain ⟨p, cap, rfl, -, hc⟩ := hv.shape
  refine ⟨p, cap, hB.cell' (i := 0) (by rfl), hB.cell' (i := 1) (by rfl), fun j x hx => ?_, hv.mono fun k hk => hk.1⟩
  obtain ⟨g, off, e, -, -, q⟩ := hc (by have := (List.getElem?_eq_some_iff.1 hx).1; omega)
  exact ⟨g, off, e, q j _ (by rw [List.getElem?_map, hx]; rfl)⟩


set_option maxHeartbeats 4000000 in
set_option maxRecDepth 100000 in
theorem ringPlays_any (room : Int) (S0 : Nat → Prop) (sv : Value) (zs : List Int) (w : World) (hS : ∀ k, S0 k → k < w.heap.size) (hs : Sl w S0 1 sv zs.length (zs.map (Value.int .i64))) (hlen : zs.length ≤ 9223372036854775807) :
    Calls Try.prog 5 #[.int .i64 room, sv] w (RetW (.bool true) fun w' => Chg NoB w w') := by
  obtain ⟨p, cap, rfl, hcap, hcells⟩ := hs.shape
  clear hs
  go_enter Try.func5, Try.ntmps5
  go_wp2_with fail
  refine (ring_first _).mono ?_
  rintro e w1 ⟨rfl, C1⟩
  go_wp2_with fail
  refine (i_new_any room _).mono ?_
  rintro e w2 ⟨b, rfl, -, R2, C2⟩
  go_wp2_with fail
  refine (rnew_any room _).mono ?_
  rintro e w3 ⟨c, rfl, -, R3, C3⟩
  obtain ⟨R, hR⟩ : ∃ R, R = (min (max room 0) 65536).toNat := ⟨_, rfl⟩
  rw [← hR] at R2 R3
  clear hR
  have hT : Two w w3 b [] c [] R := by
    have h1 := C1.size
    have h2 := C2.size
    refine ⟨_, _, (R2.bound.chg C3 fun _ _ => id), R3.bound, ?_, ?_, ?_, (C1.then0 C2).then0 C3⟩
    · rintro k ⟨hk, hk1⟩ ⟨hk2, _⟩
      have := hk2.resolve_left id; omega
    · rintro k ⟨hk, hk1⟩
      have := hk.resolve_left id
      have := C3.size; omega
    · rintro k ⟨hk, hk1⟩
      have := hk.resolve_left id; omega
  clear R2 R3 C1 C2 C3
  go_wp2_with fail
  go_loopw [30] (fun i wr => ∃ k : Nat, k ≤ zs.length ∧ i = .int .i64 k ∧ ∃ xs, Two w wr b xs c xs R) (fun i _ => zs.length - (intOf i).toNat)
  case atStart => exact ⟨0, Nat.zero_le _, rfl, [], hT⟩
  case round =>
    obtain ⟨k, hk, rfl, xs, hT'⟩ := hrel
    clear hT
    have hT := hT'
    clear hT'
    by_cases hlt : k < zs.length
    · obtain ⟨g0, o0, rfl, hg0, hgl0, q0⟩ := hcells (by omega)
      obtain ⟨z, hz⟩ : ∃ z, zs[k]? = some z := ⟨zs[k], by simp [hlt]⟩
      have hz0 := hT.chg.cell (q0 k (.int .i64 z) (by rw [List.getElem?_map, hz]; rfl)) id
      have hk0 : (0 : Int) ≤ k := by omega
      have hk1 : (k : Int) < zs.length := by omega
      clear hcells q0 hz
      by_cases h200 : k < 200
      · have h200' : decide ((200 : Int) ≤ k) = false := by simp; omega
        go_upto_if 39 with fail
        go_cut [] (fun wx => ∃ ys, Two w wx b ys c ys R)
        case first =>
          by_cases h3 : z.tmod 3 = 0
          · have h3' : (z.tmod 3 == 0) = true := by simp [h3]
            clear h3
            rcases xs with _ | ⟨x, t⟩
            · go_wp2_with fail
              refine (hT.pop_no).mono ?_
              rintro e w1 ⟨rfl, rfl⟩
              go_wp2_with fail
              refine (hT.rpop_no).mono ?_
              rintro e w1 ⟨rfl, rfl⟩
              go_wp2_with fail
              go_meet
              exact ⟨[], hT⟩
            · go_wp2_with fail
              refine (hT.pop).mono ?_
              rintro e w1 ⟨rfl, hT1⟩
              go_wp2_with fail
              refine (hT1.rpop).mono ?_
              rintro e w1 ⟨rfl, hT2⟩
              go_wp2_with fail
              go_meet
              exact ⟨t, hT2⟩
          · have h3' : (z.tmod 3 == 0) = false := by simp [h3]
            clear h3
            by_cases hf : xs.length < R
            · go_wp2_with fail
              refine (hT.push z hf).mono ?_
              rintro e w1 ⟨rfl, hT1⟩
              go_wp2_with fail
              refine (hT1.rpush z hf).mono ?_
              rintro e w1 ⟨rfl, hT2⟩
              go_wp2_with fail
              go_meet
              exact ⟨_, hT2⟩
            · have hf' : xs.length = R := by
                obtain ⟨_, _, _, _, _, _, h, _⟩ := hT.ring; omega
              have HF := Lib.hid hf'
              clear hf hf'
              go_wp2_with fail
              refine (hT.push_full _ HF.out).mono ?_
              rintro e w1 ⟨rfl, hT1⟩
              go_wp2_with fail
              refine (hT1.rpush_full _ HF.out).mono ?_
              rintro e w1 ⟨rfl, hT2⟩
              go_wp2_with fail
              go_meet
              exact ⟨_, hT2⟩
        case rest =>
          obtain ⟨ys, hT⟩ := hcut
          clear hz0
          rename World => wy
          obtain ⟨S1, hR1⟩ := hT.ring
          have hys : ys.length ≤ 65536 := by obtain ⟨_, _, _, _, _, h1, h2, _⟩ := hR1; omega
          by_cases hin : 0 ≤ z ∧ z < ys.length
          · obtain ⟨j, rfl⟩ := Int.eq_ofNat_of_zero_le hin.1
            have hj : j < ys.length := by omega
            have hyj : ys[j]? = some ys[j] := List.getElem?_eq_getElem hj
            have hat := i_at_any S1 b ys R wy hR1 j ys[j] true (by rw [if_pos hin]; exact ⟨by simp, rfl⟩)
            have hb1 : decide ((0 : Int) ≤ j) = true := by simp
            have hb2 : decide (j < ys.length) = true := by simp [hj]
            have hb3 : (j : Int) < ys.length := by omega
            have hb4 : (0 : Int) ≤ j := by omega
            generalize ys[j] = y at *
            have HY := Lib.hid hyj
            have HAT := Lib.hid hat
            clear hyj hat hin hR1
            go_wp2_with fail
            refine (HAT.out).mono ?_
            rintro e w1 ⟨rfl, n1, hn1⟩
            have hT1 := hT.chg0 (Chg.of_ex' ⟨n1, hn1⟩)
            obtain ⟨S2, hR2⟩ := hT1.ref
            obtain ⟨S3, hR3⟩ := hT1.ring
            obtain ⟨p2, cap2, e0, e1, ecell, hsl⟩ := hR2.cells
            obtain ⟨g, off, rfl, hyc⟩ := ecell j y HY.out
            have f2 := hR3.cell2
            have f3 := hR3.cell3
            clear hn1 hT ecell
            go_wp2_with fail
            go_quiet ((first | (go_at_call 30; exact quiet0 (i_len_any b _ _ f2)) | (go_at_call 31; exact quiet0 (i_room_any b _ _ f3))))
            generalize hw2 : w1.drewN _ = w2
            have hT2 := hT1.chg0 (Chg.of_ex' ⟨_, hw2⟩)
            obtain ⟨S4, hR4⟩ := hT2.ring
            clear hw2 e0 e1 f2 f3 hR2 hR3 hT1 hsl
            go_wp2_with fail
            refine (i_list_any S4 b ys R _ hR4).mono ?_
            rintro e w3 ⟨l, rfl, O3, C3⟩
            have hT3 := hT2.chg0 C3
            obtain ⟨S5, hR5⟩ := hT3.ref
            obtain ⟨p3, cap3, e0, e1, -, hsl⟩ := hR5.cells
            have O4 := (Own.of_row O3).sl
            clear hT2 O3 hR4 hR5 C3
            go_wp2_with fail
            refine (same_any _ _ _ _ ys ys _ O4 hsl (by omega) (by omega) true (by simp)).mono ?_
            rintro e w5 ⟨rfl, C5⟩
            have hT5 := hT3.chg0 C5
            clear hT3 e0 e1 O4 hsl C5
            go_wp2_with fail
            go_roundw
            case rel => exact ⟨k + 1, by omega, by go_num, _, hT5⟩
            case measure => simp [intOf]; omega
          · have hat := i_at_any S1 b ys R wy hR1 z 0 false (by rw [if_neg hin]; exact ⟨rfl, rfl⟩)
            have HAT := Lib.hid hat
            clear hat hR1
            by_cases hneg : 0 ≤ z
            · have hb1 : decide ((0 : Int) ≤ z) = true := by simp [hneg]
              have hb2 : decide (z < (ys.length : Int)) = false := by simp; omega
              clear hneg hin
              go_wp2_with fail
              refine (HAT.out).mono ?_
              rintro e w1 ⟨rfl, n1, hn1⟩
              have hT1 := hT.chg0 (Chg.of_ex' ⟨n1, hn1⟩)
              obtain ⟨S2, hR2⟩ := hT1.ref
              obtain ⟨S3, hR3⟩ := hT1.ring
              obtain ⟨p2, cap2, e0, e1, ecell, hsl⟩ := hR2.cells
              have f2 := hR3.cell2
              have f3 := hR3.cell3
              clear hn1 hT ecell
              go_wp2_with fail
              go_quiet ((first | (go_at_call 30; exact quiet0 (i_len_any b _ _ f2)) | (go_at_call 31; exact quiet0 (i_room_any b _ _ f3))))
              generalize hw2 : w1.drewN _ = w2
              have hT2 := hT1.chg0 (Chg.of_ex' ⟨_, hw2⟩)
              obtain ⟨S4, hR4⟩ := hT2.ring
              clear hw2 e0 e1 f2 f3 hR2 hR3 hT1 hsl
              go_wp2_with fail
              refine (i_list_any S4 b ys R _ hR4).mono ?_
              rintro e w3 ⟨l, rfl, O3, C3⟩
              have hT3 := hT2.chg0 C3
              obtain ⟨S5, hR5⟩ := hT3.ref
              obtain ⟨p3, cap3, e0, e1, -, hsl⟩ := hR5.cells
              have O4 := (Own.of_row O3).sl
              clear hT2 O3 hR4 hR5 C3
              go_wp2_with fail
              refine (same_any _ _ _ _ ys ys _ O4 hsl (by omega) (by omega) true (by simp)).mono ?_
              rintro e w5 ⟨rfl, C5⟩
              have hT5 := hT3.chg0 C5
              clear hT3 e0 e1 O4 hsl C5
              go_wp2_with fail
              go_roundw
              case rel => exact ⟨k + 1, by omega, by go_num, _, hT5⟩
              case measure => simp [intOf]; omega
            · have hb1 : decide ((0 : Int) ≤ z) = false := by simp; omega
              clear hneg hin
              go_wp2_with fail
              refine (HAT.out).mono ?_
              rintro e w1 ⟨rfl, n1, hn1⟩
              have hT1 := hT.chg0 (Chg.of_ex' ⟨n1, hn1⟩)
              obtain ⟨S2, hR2⟩ := hT1.ref
              obtain ⟨S3, hR3⟩ := hT1.ring
              obtain ⟨p2, cap2, e0, e1, ecell, hsl⟩ := hR2.cells
              have f2 := hR3.cell2
              have f3 := hR3.cell3
              clear hn1 hT ecell
              go_wp2_with fail
              go_quiet ((first | (go_at_call 30; exact quiet0 (i_len_any b _ _ f2)) | (go_at_call 31; exact quiet0 (i_room_any b _ _ f3))))
              generalize hw2 : w1.drewN _ = w2
              have hT2 := hT1.chg0 (Chg.of_ex' ⟨_, hw2⟩)
              obtain ⟨S4, hR4⟩ := hT2.ring
              clear hw2 e0 e1 f2 f3 hR2 hR3 hT1 hsl
              go_wp2_with fail
              refine (i_list_any S4 b ys R _ hR4).mono ?_
              rintro e w3 ⟨l, rfl, O3, C3⟩
              have hT3 := hT2.chg0 C3
              obtain ⟨S5, hR5⟩ := hT3.ref
              obtain ⟨p3, cap3, e0, e1, -, hsl⟩ := hR5.cells
              have O4 := (Own.of_row O3).sl
              clear hT2 O3 hR4 hR5 C3
              go_wp2_with fail
              refine (same_any _ _ _ _ ys ys _ O4 hsl (by omega) (by omega) true (by simp)).mono ?_
              rintro e w5 ⟨rfl, C5⟩
              have hT5 := hT3.chg0 C5
              clear hT3 e0 e1 O4 hsl C5
              go_wp2_with fail
              go_roundw
              case rel => exact ⟨k + 1, by omega, by go_num, _, hT5⟩
              case measure => simp [intOf]; omega
      · have h200' : decide ((200 : Int) ≤ k) = true := by simp; omega
        clear h200
        go_wp2_with fail
        refine (i_pop_nil _).mono ?_
        rintro e w1 ⟨rfl, n1, rfl⟩
        go_wp2_with fail
        refine (i_at_nil 0 _).mono ?_
        rintro e w1 ⟨rfl, rfl⟩
        go_wp2_with fail
        refine (i_push_nil _ _).mono ?_
        rintro e w1 ⟨rfl, n2, rfl⟩
        go_wp2_with fail
        refine (i_len_nil _).mono ?_
        rintro e w1 ⟨rfl, rfl⟩
        go_wp2_with fail
        refine (i_room_nil _).mono ?_
        rintro e w1 ⟨rfl, rfl⟩
        go_wp2_with fail
        refine (i_list_nil _).mono ?_
        rintro e w1 ⟨rfl, rfl⟩
        go_wp2
        go_ret
        exact ⟨rfl, hT.chg.drewN _⟩
    · obtain rfl : k = zs.length := by omega
      go_wp2_with fail
      refine (i_pop_nil _).mono ?_
      rintro e w1 ⟨rfl, n1, rfl⟩
      go_wp2_with fail
      refine (i_at_nil 0 _).mono ?_
      rintro e w1 ⟨rfl, rfl⟩
      go_wp2_with fail
      refine (i_push_nil _ _).mono ?_
      rintro e w1 ⟨rfl, n2, rfl⟩
      go_wp2_with fail
      refine (i_len_nil _).mono ?_
      rintro e w1 ⟨rfl, rfl⟩
      go_wp2_with fail
      refine (i_room_nil _).mono ?_
      rintro e w1 ⟨rfl, rfl⟩
      go_wp2_with fail
      refine (i_list_nil _).mono ?_
      rintro e w1 ⟨rfl, rfl⟩
      go_wp2
      go_ret
      exact ⟨rfl, hT.chg.drewN _⟩
end Go.Proofs.Ytokigldggkkbcaa
