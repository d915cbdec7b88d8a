/- ShrinkParts returns true, whatever it is given. -/
import Derived.Test.YtokigldggkkbcaaShrinkFirst
set_option linter.unusedVariables false
namespace Go.Proofs.Ytokigldggkkbcaa
open Go.RowKit Go.RR

set_option maxHeartbeats 4000000 in
set_option maxRecDepth 100000 in
theorem shrinkParts_any (v : Value) (zs : List Int) (c f : Int) (w : World) (hs : Sl w (fun k => k < w.heap.size) 1 v zs.length (ints zs)) (hlen : zs.length ≤ 9223372036854775807)
    (hc1 : -9223372036854775808 ≤ c) (hc2 : c ≤ 9223372036854775807) (hf1 : -9223372036854775808 ≤ f) (hf2 : f ≤ 9223372036854775807) :
    Calls Try.prog 7 #[v, .int .i64 c, .int .i64 f] w (RetW (.bool true) fun w' => Chg NoB w w') := by
  obtain ⟨i0, hi0, hz0, hz1, hz2⟩ := info_parts n_elem
  obtain ⟨pl, cl, rfl, hcl⟩ : ∃ p c, v = .slice p zs.length c ∧ zs.length ≤ c := by obtain ⟨-, p, c, e, h, -⟩ := hs; exact ⟨p, c, e, h⟩
  have HS := Lib.hid hs
  clear hs
  obtain ⟨n, hn⟩ : ∃ n, zs.length = n := ⟨_, rfl⟩
  have HN := Lib.hid hn
  by_cases hbig : 200 < n
  · have hd : decide ((200 : Int) < (zs.length : Int)) = true := by simp; omega
    clear hn hbig
    go_enter Try.func7, Try.ntmps7
    go_wp2_with fail
    refine (first38 w).mono ?_
    rintro e w1 ⟨rfl, C1⟩
    go_wp2
    go_ret
    exact ⟨rfl, C1⟩
  · have hd : decide ((200 : Int) < (n : Int)) = false := by simp; omega
    have hn200 : n ≤ 200 := by omega
    rw [hn] at hcl hlen
    clear hn hbig
    go_enter Try.func7, Try.ntmps7
    go_wp2_with fail
    refine (first38 w).mono ?_
    rintro e w1 ⟨rfl, C1⟩
    rw [HN.out]
    have H0 := HS.out
    rw [HN.out] at H0
    have HS0 := Lib.hid H0
    obtain ⟨k, hk⟩ : ∃ k : Nat, (k : Int) = min (max c 1) n := ⟨(min (max c 1) n).toNat, by omega⟩
    have HK := Lib.hid hk
    have hkn : k ≤ n := by omega
    clear H0 hk HS
    go_wp2_with fail
    refine (n_split _ w1 _ c n k (ints zs) (HS0.out.chg0 C1) (ints_one _) (by omega) HK.out).mono ?_
    rintro e w2 ⟨q2, rfl, vs, O2, R2, C2⟩
    obtain ⟨p2, c2, rfl⟩ : ∃ p c, q2 = .slice p k c := by obtain ⟨-, p, c, e, -⟩ := O2.sl; exact ⟨p, c, e⟩
    have HO2 := Lib.hid O2.sl
    have HR2 := Lib.hid R2
    clear O2 R2
    go_wp2_with fail
    refine (sh_parts w2 n k c (by omega) HK.out).mono ?_
    rintro e w3 ⟨q3, rfl, O3, C3⟩
    obtain ⟨p3, c3, rfl⟩ : ∃ p c, q3 = .slice p k c := by obtain ⟨-, p, c, e, -⟩ := O3.sl; exact ⟨p, c, e⟩
    have HO3 := Lib.hid O3.sl
    have CC3 := (C1.step C2).step C3
    have HO2' := Lib.hid (HO2.out.chg0 C3)
    have HR2' := Lib.hid (HR2.out.chg0 C3)
    have hvs : vs.length = k := by rw [HR2.out.1]; simp [piecesOf]
    have HVS := Lib.hid hvs
    have hk200 : k ≤ 200 := by omega
    clear O3 HO2 HR2 hvs
    go_wp2_with fail
    go_loopg [9, 34] k (fun m at_ ix wr => ∃ i : Nat, i + m = k ∧ ix = .int .i64 i ∧ at_ = .int .i64 (partOff n k i : Nat) ∧ Chg NoB w3 wr)
    case atStart => exact ⟨0, by omega, rfl, by rw [partOff_zero]; rfl, Chg.refl _ _⟩
    case round =>
      obtain ⟨i, hi, rfl, rfl, C4⟩ := hrel
      have HI := Lib.hid hi
      have hik : i ≤ k := by omega
      clear hi
      by_cases hlt : i < k
      · have hle := partLen_le n k i hlt
        have hsuc := partOff_succ n k i
        have hpos := partLen_pos n k i hkn (by omega)
        have hus : (ints zs).length = n := by rw [ints_len]; exact HN.out
        have hpc : (piecesOf (ints zs) k)[i]? = some (((ints zs).drop (partOff n k i)).take (partLen n k i)) := by
          rw [← hus]; simp [piecesOf, hlt]
        have hwant : (ints (nats (partsOf n k)))[i]? = some (.int .i64 (partLen n k i : Nat)) := ints_at (by simp [nats, partsOf_get _ _ _ hlt])
        generalize partOff n k i = a at *
        generalize partLen n k i = s at *
        obtain ⟨vi, hvi, hsl⟩ := HR2'.out.2 i _ hpc
        have hl : (((ints zs).drop a).take s).length = s := by simp [hus]; omega
        rw [hl] at hsl
        obtain ⟨pi, ci, rfl⟩ : ∃ p c, vi = .slice p s c := by obtain ⟨-, p, c, e, -⟩ := hsl; exact ⟨p, c, e⟩
        obtain ⟨g2, o2, rfl, x2⟩ : ∃ g off, p2 = some ⟨g, off, none⟩ ∧ wr.cell? ⟨g, off + i, none⟩ = some (.slice pi s ci) := by
          obtain ⟨-, p, c, e, hn, h2⟩ := HO2'.out
          cases e
          obtain ⟨g, off, rfl, h3, h4, h5⟩ := h2 (by omega)
          exact ⟨g, off, rfl, C4.cell (h5 i _ hvi) id⟩
        obtain ⟨g3, o3, rfl, x3⟩ : ∃ g off, p3 = some ⟨g, off, none⟩ ∧ wr.cell? ⟨g, off + i, none⟩ = some (.int .i64 s) := by
          obtain ⟨-, p, c, e, hn, h2⟩ := HO3.out
          cases e
          obtain ⟨g, off, rfl, h3, h4, h5⟩ := h2 (by omega)
          exact ⟨g, off, rfl, C4.cell (h5 i _ hwant) id⟩
        obtain ⟨gl, ol, rfl⟩ : ∃ g off, pl = some ⟨g, off, none⟩ := by
          obtain ⟨-, p, c, e, hn, h2⟩ := HS0.out
          cases e
          obtain ⟨g, off, rfl, -⟩ := h2 (by omega)
          exact ⟨g, off, rfl⟩
        have HSL := Lib.hid (hsl.chg0 C4)
        have HSU := Lib.hid hsuc
        have hcut := (((HS0.out.chg0 CC3).chg0 C4).cut (a := a) (k := s) (c := cl - a) (by omega) (by omega))
        have HCUT := Lib.hid hcut
        have l0 : (0 : Int) ≤ i := by omega
        have l1 : (i : Int) < k := by omega
        have m0 : (0 : Int) ≤ a := by omega
        have m1 : (a : Int) ≤ (a : Int) + s := by omega
        have m2 : (a : Int) + s ≤ cl := by omega
        have m3 : ¬ cl = a := by omega
        have he : ((ints zs).drop a).take s = ints ((zs.drop a).take s) := by simp [ints]
        have HE := Lib.hid he
        clear hsuc hpc hwant hvi hsl hl hcut he hus
        go_wp2_with fail
        have h1 := HSL.out
        have h2 := HCUT.out
        rw [HE.out] at h1 h2
        refine (sh_same _ _ _ _ s s _ _ wr h1 h2 (by have := HN.out; simp; omega) (by have := HN.out; simp; omega) true (by simp)).mono ?_
        rintro e w5 ⟨rfl, n5, rfl⟩
        clear h1 h2 x2 x3
        go_wp2_with fail
        go_roundg (k - (i + 1))
        case measure => have := HI.out; omega
        case rel => exact ⟨i + 1, by have := HI.out; omega, by go_num, by rw [HSU.out]; go_num, C4.drewN n5⟩
      · obtain rfl : i = k := by have := HI.out; omega
        have CC4 := CC3.step C4
        have hoff : partOff n i i = n := by
          by_cases h0 : 0 < i
          · exact partOff_all n i h0
          · have : n = 0 := by have := HK.out; omega
            have : i = 0 := by omega
            subst this; rw [partOff_zero]; omega
        rw [hoff]
        have HL := Lib.hid (HS0.out.chg0 CC4)
        obtain ⟨wq, hwq⟩ : ∃ wq, wq = wr := ⟨_, rfl⟩
        subst hwq
        have o1 : Own (wq.alloc (.cells #[] 3)) (fun k => k = wq.heap.size) 3 1 (.slice (some ⟨wq.heap.size, 0, none⟩) 0 0) 0 [] := Own.fresh wq [] 3 0 rfl (by unfold maxLen; omega)
        have A5 := (Chg.refl NoB wq).alloc (.cells #[] 3)
        have s1 := HL.out.chg0 A5
        have b1 : 0 + n ≤ maxLen := by unfold maxLen; omega
        have b2 : (0 + n) * 8 ≤ 140737488355328 := by omega
        have one := ints_one zs
        have hzq := CC4.size
        clear hoff
        go_wp2_with (at_builtin; go_must (refine wpList_app rfl _ _ 47 rfl i0 _ 8 Try.underlying47 hi0 hz0 hz1 hz2 rfl rfl o1 _ n _ rfl s1 one b1 b2 ?_))
        intro v5 w5 o5 g5 _
        have C5 : Chg NoB wq w5 := A5.grown g5 (fun k hk => .inr (by simp [Value.ownBlock] at hk; omega))
        have O5 : Own w5 (fun k => wq.heap.size ≤ k ∧ k < w5.heap.size) 3 1 v5 n (ints zs) := by
          have := o5.monoIn (S' := fun k => wq.heap.size ≤ k ∧ k < w5.heap.size) (fun k hk h => ⟨h.elim (fun h => by simp [Value.ownBlock] at h; omega) (fun h => by first | (rw [h]; simp) | omega), hk⟩)
          simpa using this
        obtain ⟨p5, c5, rfl⟩ : ∃ p c, v5 = .slice p n c := by obtain ⟨-, p, c, e, -⟩ := O5.sl; exact ⟨p, c, e⟩
        have HO5 := Lib.hid O5
        have hn1 := HN.out
        have hO5s := O5.sl
        rw [← hn1] at hO5s
        have HO5S := Lib.hid hO5s
        clear o5 g5 o1 A5 s1 b1 b2 one O5 hn1 hO5s
        go_wp2_with fail
        refine (n_without _ w5 (.slice p5 n c5) f c (ints zs) (by rw [ints_len, HN.out]; exact HO5.out.sl) (ints_one _) (by rw [ints_len, HN.out]; omega) hc1 hc2).mono ?_
        rintro e w6 ⟨q6, rfl, O6, C6⟩
        have hwm : woF (ints zs) f c = ints (woF zs f c) := by unfold woF without; split <;> simp [ints]
        have hwl : (woF zs f c).length ≤ 200 := by
          have := HN.out
          unfold woF
          split
          · omega
          · exact Nat.le_trans (without_len_le _ _ _) (by omega)
        rw [hwm, ints_len] at O6
        generalize hW : woF zs f c = W at *
        have HW := Lib.hid hW
        obtain ⟨p6, c6, rfl⟩ : ∃ p c, q6 = .slice p W.length c := by obtain ⟨-, p, c, e, -⟩ := O6.sl; exact ⟨p, c, e⟩
        have HO6 := Lib.hid O6
        have O5' := HO5.out.chg0 C6
        have HO5' := Lib.hid O5'
        have hz6 := C6.size
        have hz5 := C5.size
        have CC6 := (CC4.step C5).step C6
        have HWM := Lib.hid hwm
        clear O6 O5' hwm hW
        go_wp2_with fail
        go_loopg [65] W.length (fun m ix wr => ∃ (j : Nat) (ys : List Int), j + m = W.length ∧ ix = .int .i64 j ∧ ys.length = W.length ∧ Own wr (fun k => w5.heap.size ≤ k) 3 1 (.slice p6 W.length c6) W.length (ints ys) ∧ Chg (fun k => w5.heap.size ≤ k) w6 wr)
        case atStart => exact ⟨0, W, by omega, rfl, rfl, HO6.out, Chg.refl _ _⟩
        case round =>
          obtain ⟨j, ys, hj, rfl, hys, hO, C7⟩ := hrel
          have HJ := Lib.hid hj
          have HY := Lib.hid hys
          have HO := Lib.hid hO
          have hjw : j ≤ W.length := by omega
          clear hj hO
          by_cases hlt2 : j < W.length
          · obtain ⟨y, hy⟩ : ∃ y, ys[j]? = some y := ⟨ys[j], by simp [hys, hlt2]⟩
            obtain ⟨g, off, rfl, hg1, hcell, hgl, hfr⟩ : ∃ g off, p6 = some ⟨g, off, none⟩ ∧ w5.heap.size ≤ g ∧ wr.cell? ⟨g, off + j, none⟩ = some (.int .i64 y) ∧ g < wr.heap.size ∧ wr.frozen? ⟨g, off + j, none⟩ = false := by
              obtain ⟨-, ⟨-, h0⟩ | ⟨g, off, cap, cur, e, h1, h2, h3, h4, h5, h6⟩⟩ := HO.out
              · omega
              · cases e
                exact ⟨g, off, rfl, h1, h2.cell' (h6 _ _ (ints_at hy)), h2.lt, h2.frozen _⟩
            have j0 : (0 : Int) ≤ j := by omega
            have j1 : (j : Int) < W.length := by omega
            clear hys hy
            go_wp2_with fail
            go_roundg (W.length - (j + 1))
            case measure => have := HJ.out; omega
            case rel =>
              refine ⟨j + 1, ys.set j (RowKit.wrap64 (y + 1)), by have := HJ.out; omega, by go_num, by rw [List.length_set]; exact HY.out, ?_, C7.setCell (a := ⟨g, off + j, none⟩) (.inl hg1) _⟩
              have h1 := HO.out.set1 (k := j) hlt2 (.int .i64 (RowKit.wrap64 (y + 1)))
              rw [show (ints ys).set j (.int .i64 (RowKit.wrap64 (y + 1))) = ints (ys.set j (RowKit.wrap64 (y + 1))) from by simp [ints]] at h1
              exact h1
          · obtain rfl : j = W.length := by have := HJ.out; omega
            have O5w := HO5'.out.chg C7 (fun k hk h => by omega)
            have CC7 : Chg NoB w wr := CC6.trans C7 fun k hk h => by omega
            have HL7 := Lib.hid (HS0.out.chg0 CC7)
            have CC7' : Chg NoB wq wr := ((C5.step C6).trans C7 fun k hk h => by omega)
            clear hys
            go_wp2_with fail
            refine (sh_same _ _ _ _ n n zs zs wr O5w.sl HL7.out (by have := HN.out; omega) (by have := HN.out; omega) true (by simp)).mono ?_
            rintro e w8 ⟨rfl, n8, rfl⟩
            have CC8 := CC7.drewN n8
            generalize hw8 : wr.drewN n8 = w8 at *
            clear hw8
            go_wp2_with fail
            refine (n_without _ w8 (.slice pl n cl) f c (ints zs) (by rw [ints_len, HN.out]; exact HS0.out.chg0 CC8) (ints_one _) (by rw [ints_len, HN.out]; omega) hc1 hc2).mono ?_
            rintro e w9 ⟨q9, rfl, O9, C9⟩
            rw [HWM.out, ints_len] at O9
            go_wp2_with fail
            refine (sh_without _ (.slice pl n cl) zs w9 f c (by rw [HN.out]; exact (HS0.out.chg0 CC8).chg0 C9) (by have := HN.out; omega) hf1 hf2 hc1 hc2).mono ?_
            rintro e w10 ⟨q10, rfl, O10, C10⟩
            rw [HW.out] at O10
            go_wp2_with fail
            refine (sh_same _ _ _ _ _ _ W W w10 (O9.sl.chg0 C10) O10.sl (by omega) (by omega) true (by simp)).mono ?_
            rintro e w11 ⟨rfl, n11, rfl⟩
            go_wp2
            go_ret
            exact ⟨rfl, ((CC8.step C9).step C10).drewN n11⟩
end Go.Proofs.Ytokigldggkkbcaa
