/- ShrinkSteps returns true, whatever it is given. -/
import Derived.Test.YtokigldggkkbcaaShrinkFirst
set_option linter.unusedVariables false
namespace Go.Proofs.Ytokigldggkkbcaa
open Go.RowKit Go.RR

set_option maxHeartbeats 1000000 in
set_option maxRecDepth 100000 in
theorem steps_cl (ga gb n : Nat) (mv v : Value) (must zs : List Int) (Sm Sv : Nat → Prop) (w : World) (hA : Blk w ga #[.int .i64 n] 3) (hB : Blk w gb #[mv] 73) (hm : Sl w Sm 1 mv must.length (ints must)) (hv : Own w Sv 3 1 v zs.length (ints zs))
    (hga : ¬ Sv ga) (hgb : gb ≠ ga) (hSm : ∀ k, Sm k → k ≠ ga) (hl : must.length ≤ 1000000) (hz : zs.length ≤ 1000) (hn : n ≤ 1000000000) :
    Calls Try.prog 44 #[v, .pointer (some ⟨ga, 0, none⟩), .pointer (some ⟨gb, 0, none⟩)] w (RetW (.bool (badOf must zs)) fun w' => Blk w' ga #[.int .i64 (n + 1 : Nat)] 3 ∧ Chg (fun k => k = ga ∨ Sv k) w w') := by
  have a0 := hA.cell' (i := 0) (v := .int .i64 n) (by rfl)
  have a1 := hA.frozen 0
  have a2 := hA.lt
  obtain ⟨pm, cm, rfl⟩ : ∃ p c, mv = .slice p must.length c := by obtain ⟨-, p, c, e, -⟩ := hm; exact ⟨p, c, e⟩
  obtain ⟨pv, cv, rfl⟩ : ∃ p c, v = .slice p zs.length c := by obtain ⟨-, p, c, e, -⟩ := hv.sl; exact ⟨p, c, e⟩
  have C1 : Chg (· = ga) w (w.setCell ⟨ga, 0, none⟩ (.int .i64 (n + 1))) := (Chg.refl (· = ga) w).setCell (a := ⟨ga, 0, none⟩) (.inl rfl) _
  have A1 : Blk (w.setCell ⟨ga, 0, none⟩ (.int .i64 (n + 1))) ga #[.int .i64 (n + 1 : Nat)] 3 := hA.set 0 _
  have B1 := C1.blk hB hgb
  have M1 := hm.chg C1 hSm
  have V1 := hv.chg C1 (fun k h e => hga (e ▸ h))
  have HV1 := Lib.hid V1
  have HA1 := Lib.hid A1
  have HB1 := Lib.hid B1
  have HM1 := Lib.hid M1
  have HC1 := Lib.hid C1
  clear hA hB hm hv A1 B1 M1 V1 C1
  go_enter Try.func44, Try.ntmps44
  go_upto_region 2 with fail
  generalize hw1 : w.setCell ⟨ga, 0, none⟩ (.int .i64 (n + 1)) = w1 at *
  have b0 := HB1.out.cell' (i := 0) (v := .slice pm must.length cm) (by rfl)
  have b1 := HB1.out.lt
  clear a0 a1 a2 hw1
  go_wp2_with fail
  refine (sh_is _ _ _ _ must zs w1 HM1.out HV1.out.sl hl (by omega) _ rfl).mono ?_
  rintro e w2 ⟨rfl, C2⟩
  have HV2 := Lib.hid (HV1.out.chg0 C2)
  clear b0 b1
  go_wp2_with fail
  go_loopg [14] zs.length (fun m ix wr => ∃ (j : Nat) (ys : List Int), j + m = zs.length ∧ ix = .int .i64 j ∧ ys.length = zs.length ∧ Own wr Sv 3 1 (.slice pv zs.length cv) zs.length (ints ys) ∧ Chg Sv w2 wr)
  case atStart => exact ⟨0, zs, by omega, rfl, rfl, HV2.out, Chg.refl _ _⟩
  case round =>
    obtain ⟨j, ys, hj, rfl, hys, hO, C7⟩ := hrel
    have HJ := Lib.hid hj
    have HY := Lib.hid hys
    have HO := Lib.hid hO
    have hjw : j ≤ zs.length := by omega
    clear hj hO hys
    by_cases hlt2 : j < zs.length
    · obtain ⟨g, off, rfl, hg1, hcell, hgl, hfr⟩ : ∃ g off, pv = some ⟨g, off, none⟩ ∧ Sv g ∧ (∃ y, wr.cell? ⟨g, off + j, none⟩ = some (.int .i64 y)) ∧ g < wr.heap.size ∧ wr.frozen? ⟨g, off + j, none⟩ = false := by
        obtain ⟨-, ⟨-, h0⟩ | ⟨g, off, cap, cur, e, h1, h2, h3, h4, h5, h6⟩⟩ := HO.out
        · omega
        · cases e
          have hy : ys[j]? = some (ys[j]'(by have := HY.out; omega)) := List.getElem?_eq_getElem _
          exact ⟨g, off, rfl, h1, ⟨_, h2.cell' (h6 _ _ (ints_at hy))⟩, h2.lt, h2.frozen _⟩
      obtain ⟨y, hcell⟩ := hcell
      have j0 : (0 : Int) ≤ j := by omega
      have j1 : (j : Int) < zs.length := by omega
      go_wp2_with fail
      go_roundg (zs.length - (j + 1))
      case measure => have := HJ.out; omega
      case rel =>
        refine ⟨j + 1, ys.set j (-1), by have := HJ.out; omega, by go_num, by rw [List.length_set]; exact HY.out, ?_, C7.setCell (a := ⟨g, off + j, none⟩) (.inl hg1) _⟩
        have h1 := HO.out.set1 (k := j) hlt2 (.int .i64 (-1))
        rw [show (ints ys).set j (.int .i64 (-1)) = ints (ys.set j (-1)) from by simp [ints]] at h1
        exact h1
    · obtain rfl : j = zs.length := by have := HJ.out; omega
      go_wp2
      go_ret
      refine ⟨rfl, C7.blk (C2.blk0 HA1.out) hga, ?_⟩
      exact ((HC1.out.then0 C2).mono (S' := fun k => k = ga ∨ Sv k) fun k _ h => .inl h).trans C7 fun k _ h => .inr h

theorem asks_steps (ga gb : Nat) (mv : Value) (must : List Int) (H : Nat) (hga : ga < H) (hgb : gb < H) (hne : gb ≠ ga) (hl : must.length ≤ 1000000) :
    Asks 44 #[] #[.pointer (some ⟨ga, 0, none⟩), .pointer (some ⟨gb, 0, none⟩)] 3 (Value.int .i64) (badOf must) 1000000000 H (· = ga)
      (fun n w => Blk w ga #[.int .i64 n] 3 ∧ Blk w gb #[mv] 73 ∧ Sl w (fun k => k < H ∧ k ≠ ga) 1 mv must.length (ints must)) where
  old := fun k h => h ▸ hga
  keep := fun n w w' h _ c => ⟨c.blk h.1 (by omega), c.blk h.2.1 (by omega), h.2.2.chg c fun k h1 h2 => by omega⟩
  call := fun n w v zs Sv h _ hz hn hv hSv => (steps_cl ga gb n mv v must zs _ Sv w h.1 h.2.1 h.2.2 hv (fun e => by have := hSv _ e; omega) hne (fun k hk => hk.2) hl (by omega) hn).mono fun e w' ⟨h1, h2, h3⟩ =>
    ⟨h1, ⟨h2, h3.blk h.2.1 (fun e => e.elim hne (fun e => by have := hSv _ e; omega)), h.2.2.chg h3 fun k h1 h2 => h2.elim h1.2 (fun e => by have := hSv _ e; omega)⟩, h3⟩
  enter := enters_of Try.func44 (by kernel_rfl) rfl

set_option maxHeartbeats 4000000 in
set_option maxRecDepth 100000 in
theorem shrinkSteps_any (v mv : Value) (zs must : List Int) (w : World) (hs : Sl w (fun k => k < w.heap.size) 1 v zs.length (ints zs)) (hm : Sl w (fun k => k < w.heap.size) 1 mv must.length (ints must)) (hlen : zs.length ≤ 9223372036854775807) (hlen2 : must.length ≤ 9223372036854775807) :
    Calls Try.prog 8 #[v, mv] w (RetW (.bool true) fun w' => Chg NoB w w') := by
  obtain ⟨i0, hi0, hz0, hz1, hz2⟩ := info_parts n_elem
  obtain ⟨pl, cl, rfl⟩ : ∃ p c, v = .slice p zs.length c := by obtain ⟨-, p, c, e, -⟩ := hs; exact ⟨p, c, e⟩
  obtain ⟨pm, cm, rfl⟩ : ∃ p c, mv = .slice p must.length c := by obtain ⟨-, p, c, e, -⟩ := hm; exact ⟨p, c, e⟩
  have HS := Lib.hid hs
  have HM := Lib.hid hm
  clear hs hm
  by_cases hbig : 150 < zs.length
  · have hd : decide ((150 : Int) < (zs.length : Int)) = true := by simp; omega
    clear hbig
    go_enter Try.func8, Try.ntmps8
    go_wp2_with fail
    refine (first38 w).mono ?_
    rintro e w1 ⟨rfl, C1⟩
    go_wp2
    go_ret
    exact ⟨rfl, C1⟩
  · have hd : decide ((150 : Int) < (zs.length : Int)) = false := by simp; omega
    have hz150 : zs.length ≤ 150 := by omega
    clear hbig
    by_cases hbig2 : 20 < must.length
    · have hd2 : decide ((20 : Int) < (must.length : Int)) = true := by simp; omega
      clear hbig2
      go_enter Try.func8, Try.ntmps8
      go_wp2_with fail
      refine (first38 w).mono ?_
      rintro e w1 ⟨rfl, C1⟩
      go_wp2
      go_ret
      exact ⟨rfl, C1⟩
    · have hd2 : decide ((20 : Int) < (must.length : Int)) = false := by simp; omega
      have hm20 : must.length ≤ 20 := by omega
      clear hbig2
      go_enter Try.func8, Try.ntmps8
      go_wp2_with fail
      refine (first38 w).mono ?_
      rintro e w1 ⟨rfl, C1⟩
      go_upto_region 5 with fail
      have A2 := (Chg.refl NoB w1).alloc (.cells #[.slice pm must.length cm] 73)
      have B2 := Blk.new w1 #[.slice pm must.length cm] 73
      go_upto_region 6 with fail
      obtain ⟨gb, hgb⟩ : ∃ gb, w1.heap.size = gb := ⟨_, rfl⟩
      have hz2' : (w1.alloc (.cells #[.slice pm must.length cm] 73)).heap.size = gb + 1 := by rw [← hgb]; simp
      have hzw := C1.size
      generalize hw2 : w1.alloc (.cells #[.slice pm must.length cm] 73) = w2 at *
      rw [hgb] at B2 hzw ⊢
      have A3 := (Chg.refl NoB w2).alloc (.cells #[.int .i64 0] 3)
      have B3 := Blk.new w2 #[.int .i64 0] 3
      rw [hz2'] at B3
      have hz3' : (w2.alloc (.cells #[.int .i64 0] 3)).heap.size = gb + 1 + 1 := by simp [hz2']
      go_upto_region 7 with fail
      generalize hw3 : w2.alloc (.cells #[.int .i64 0] 3) = w3 at *
      have C3 := (C1.step A2).step A3
      have B2' := A3.blk0 B2
      have HB2 := Lib.hid B2'
      have HB3 := Lib.hid B3
      have HZ3 := Lib.hid hz3'
      clear hw2 hw3 A2 B2 A3 hz2' B3 B2' hgb hz3'
      go_upto_region 8 with fail
      have o1 : Own (w3.alloc (.cells #[] 3)) (fun k => k = w3.heap.size) 3 1 (.slice (some ⟨w3.heap.size, 0, none⟩) 0 0) 0 [] := Own.fresh w3 [] 3 0 rfl (by unfold maxLen; omega)
      have A5 := (Chg.refl NoB w3).alloc (.cells #[] 3)
      have s1 := (HS.out.chg0 C3).chg0 A5
      have b1 : 0 + zs.length ≤ maxLen := by unfold maxLen; omega
      have b2 : (0 + zs.length) * 8 ≤ 140737488355328 := by omega
      have one := ints_one zs
      go_wp2_with (at_builtin; go_must (refine wpList_app rfl _ _ 47 rfl i0 _ 8 Try.underlying47 hi0 hz0 hz1 hz2 rfl rfl o1 _ zs.length _ rfl s1 one b1 b2 ?_))
      intro v5 w5 o5 g5 _
      have hz3' := HZ3.out
      have C5 : Chg NoB w3 w5 := A5.grown g5 (fun k hk => .inr (by simp [Value.ownBlock] at hk; omega))
      have O5 : Own w5 (fun k => gb + 1 < k ∧ k < w5.heap.size) 3 1 v5 zs.length (ints zs) := by
        have := o5.monoIn (S' := fun k => gb + 1 < k ∧ k < w5.heap.size) (fun k hk h => ⟨h.elim (fun h => by simp [Value.ownBlock] at h; omega) (fun h => by first | (rw [h, World.size_alloc]; omega) | omega), hk⟩)
        simpa using this
      obtain ⟨p5, c5, rfl⟩ : ∃ p c, v5 = .slice p zs.length c := by obtain ⟨-, p, c, e, -⟩ := O5.sl; exact ⟨p, c, e⟩
      have HO5 := Lib.hid O5
      have CC5 := C3.step C5
      have hz5 := C5.size
      obtain ⟨⟨out, cnt⟩, hres⟩ : ∃ x, shrinkF (badOf must) zs = x := ⟨_, rfl⟩
      have HRES := Lib.hid hres
      have hout : out.length ≤ 200 := by
        cases hp : badOf must zs with
        | true =>
          have := (shrinkF_least (badOf must) zs (by omega) hp).2.1
          rw [hres] at this
          simp only at this
          omega
        | false =>
          rw [shrinkF_not _ _ hp] at hres
          cases hres
          omega
      clear o5 g5 o1 A5 s1 b1 b2 one O5 hres
      clear hz3'
      have hz3' := HZ3.out
      have HA := Lib.hid (asks_steps (gb + 1) gb (.slice pm must.length cm) must w5.heap.size (by omega) (by omega) (by omega) (by omega))
      have HI : Hid _ := Lib.hid (show (Blk w5 (gb + 1) #[.int .i64 (0 : Nat)] 3 ∧ Blk w5 gb #[.slice pm must.length cm] 73 ∧ Sl w5 (fun k => k < w5.heap.size ∧ k ≠ gb + 1) 1 (.slice pm must.length cm) must.length (ints must)) from
        ⟨C5.blk0 HB3.out, C5.blk0 HB2.out, (HM.out.chg0 CC5).mono fun k hk => ⟨by omega, by omega⟩⟩)
      clear hz3'
      go_wp2_with fail
      refine (n_steps w5 HA.out 0 (.slice p5 zs.length c5) zs out cnt HI.out (by omega) (by omega) HO5.out.sl HRES.out).mono ?_
      rintro e w6 ⟨_, rfl, q6, rfl, O6, I6, C6⟩
      obtain ⟨J1, J2, J3⟩ := I6
      rw [Nat.zero_add] at J1
      have HO6 := Lib.hid O6
      have HO5' := Lib.hid (HO5.out.chg C6 fun k h e => by omega)
      have HJ1 := Lib.hid J1
      have HJ2 := Lib.hid J2
      have hz3' := HZ3.out
      have CC6 : Chg NoB w w6 := CC5.trans C6 fun k hk h => by omega
      have hz6 := C6.size
      have x1 := J2.cell' (i := 0) (v := .slice pm must.length cm) (by rfl)
      have x2 := J2.lt
      clear O6 C6 J1 J2 J3 HI HA hz3'
      go_wp2_with fail
      refine (sh_shrink _ _ (.slice pm must.length cm) (.slice pl zs.length cl) must zs out cnt w6 (HM.out.chg0 CC6) (HS.out.chg0 CC6) (by omega) (by omega) HRES.out).mono ?_
      rintro e w7 ⟨_, rfl, q7, rfl, S7, C7⟩
      have HS7 := Lib.hid S7
      have CC7 := CC6.step C7
      clear S7 x1 x2
      have hfn := fun w' => run_eql_nil_func (P := Try.prog) w' 74 _ Try.underlying74 rfl
      go_wp2_with fail
      refine (steps_nil _ w7 (.slice pl zs.length cl) zs (HS.out.chg0 CC7) (by omega)).mono ?_
      rintro e w8 ⟨_, rfl, q8, rfl, O8, C8⟩
      have HO8 := Lib.hid O8
      have CC8 := CC7.step C8
      have HO6' := Lib.hid ((HO6.out.chg0 C7).chg0 C8)
      have HS7' := Lib.hid (HS7.out.chg0 C8)
      have HO5'' := Lib.hid ((HO5'.out.chg0 C7).chg0 C8)
      have HJ1' := Lib.hid (C8.blk0 (C7.blk0 HJ1.out))
      have HJ2' := Lib.hid (C8.blk0 (C7.blk0 HJ2.out))
      clear O8 hfn HO6 HS7 HO5' HO5 HJ1 HJ2
      go_wp2_with fail
      refine (sh_same _ _ _ _ _ _ out out w8 HO6'.out.sl HS7'.out (by omega) (by omega) true (by simp)).mono ?_
      rintro e w9 ⟨rfl, n9, rfl⟩
      have D9 := (Chg.refl NoB w8).drewN n9
      generalize hw9 : w8.drewN n9 = w9 at *
      have CC9 := CC8.step D9
      have B9 := D9.blk0 HJ1'.out
      have x1 := B9.cell' (i := 0) (v := .int .i64 cnt) (by rfl)
      have x2 := B9.lt
      have HJ29 := Lib.hid (D9.blk0 HJ2'.out)
      have HS79 := Lib.hid (HS7'.out.chg0 D9)
      have HO59 := Lib.hid (HO5''.out.chg0 D9)
      have HO89 := Lib.hid (HO8.out.chg0 D9)
      clear hw9 B9 HO6' HS7' HO5'' HJ1' HJ2' HO8
      go_wp2_with fail
      refine (sh_same _ _ _ _ _ _ zs zs w9 HO59.out.sl (HS.out.chg0 CC9) (by omega) (by omega) true (by simp)).mono ?_
      rintro e w10 ⟨rfl, n10, rfl⟩
      have D10 := (Chg.refl NoB w9).drewN n10
      generalize hw10 : w9.drewN n10 = w10 at *
      have CC10 := CC9.step D10
      have B10 := D10.blk0 HJ29.out
      have y1 := B10.cell' (i := 0) (v := .slice pm must.length cm) (by rfl)
      have y2 := B10.lt
      have HS710 := Lib.hid (HS79.out.chg0 D10)
      have HO810 := Lib.hid (HO89.out.chg0 D10)
      have hz10 := CC10.size
      clear hw10 B10 x1 x2 HS79 HO59 HO89 HJ29
      go_wp2_with fail
      refine (n_shrink w10 (asks_is (.slice pm must.length cm) must _ (by omega)) 0 _ zs out cnt ((HM.out.chg0 CC10).mono fun k hk => by omega) (by omega) (by omega) (HS.out.chg0 CC10) HRES.out).mono ?_
      rintro e w11 ⟨q11, rfl, O11, -, C11⟩
      have HS711 := Lib.hid (HS710.out.chg0 C11)
      have HO811 := Lib.hid (HO810.out.chg0 C11)
      have CC11 := CC10.step C11
      have HO11 := Lib.hid O11
      clear y1 y2 O11 HS710 HO810
      go_wp2_with fail
      refine (sh_same _ _ _ _ _ _ out out w11 HO11.out.sl HS711.out (by omega) (by omega) true (by simp)).mono ?_
      rintro e w12 ⟨rfl, n12, rfl⟩
      have D12 := (Chg.refl NoB w11).drewN n12
      generalize hw12 : w11.drewN n12 = w12 at *
      have CC12 := CC11.step D12
      have HO812 := Lib.hid (HO811.out.chg0 D12)
      clear hw12
      go_wp2_with fail
      refine (sh_same _ _ _ _ _ _ zs zs w12 HO812.out.sl (HS.out.chg0 CC12) (by omega) (by omega) true (by simp)).mono ?_
      rintro e w13 ⟨rfl, n13, rfl⟩
      go_wp2
      go_ret
      exact ⟨rfl, CC12.drewN n13⟩
end Go.Proofs.Ytokigldggkkbcaa
