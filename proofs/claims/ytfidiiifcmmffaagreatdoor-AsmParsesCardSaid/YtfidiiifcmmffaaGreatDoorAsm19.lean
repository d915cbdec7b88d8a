/- A line, read by the program's reader. No condition. -/
import Derived.Test.YtfidiiifcmmffaaGreatDoorAsm18
set_option linter.unusedVariables false
set_option linter.unusedSimpArgs false
namespace Go.Proofs.YtfidiiifcmmffaaGreatDoor
open Go.RowKit Go.RR
theorem arr_inj {a b : Bs} : ((⟨a.toArray⟩ : ByteArray) = ⟨b.toArray⟩) ↔ a = b := by
  constructor
  · intro h; have := congrArg (fun x : ByteArray => x.data.toList) h; exact this
  · rintro rfl; rfl
theorem smlook_lC (ls : List (Bs × Nat)) (k : Bs) : smlook (lC ls) ⟨k.toArray⟩ = (lookL ls k).map fun n => .int .i64 n := by
  unfold smlook lookL lC
  induction ls with
  | nil => rfl
  | cons p ls ih =>
    have e : ((⟨p.1.toArray⟩ : ByteArray) == ⟨k.toArray⟩) = (p.1 == k) := by
      rw [Bool.eq_iff_iff, bb_iff, arr_inj, beq_iff_eq]
    rw [List.map_cons, List.find?_cons, List.find?_cons, e]
    cases p.1 == k with
    | true => rfl
    | false => exact ih
theorem smput_lC {ls : List (Bs × Nat)} {k : Bs} (h : lookL ls k = none) (n : Nat) : smput (lC ls) ⟨k.toArray⟩ (.int .i64 n) = lC (ls ++ [(k, n)]) := by
  have h1 : smlook (lC ls) ⟨k.toArray⟩ = none := by rw [smlook_lC, h]; rfl
  have h2 : smidx (lC ls) ⟨k.toArray⟩ = none := by
    cases hm : smidx (lC ls) ⟨k.toArray⟩ with
    | none => rfl
    | some j =>
      obtain ⟨v, _, hv, _⟩ := smidx_some hm
      rw [h1] at hv
      cases hv
  rw [(smidx_none h2).2.2 _]
  unfold lC
  rw [List.map_append]
  rfl
theorem RdX.mp {G : Nat → Prop} {w w' : World} {H b : Nat} {st : PSt} {t : Nat → Nat} {lv : Value} {mb : Nat} {jv : Value} (h : RdX G w H b st t lv mb jv) {ls : List (Bs × Nat)} (hm : SMapAt w' mb (lC ls)) (c : Chg (· = mb) w w') :
    RdX G w' H b ⟨st.l, ls, st.js⟩ t lv mb jv := by
  obtain ⟨h1, ⟨h2, h2'⟩, ⟨h3, h3'⟩, h4, h5, h6, h7⟩ := h
  have hk : ∀ {i k : Nat}, i ≠ 1 → Tg t i H w k → k ≠ mb := fun hi hk e => by have := hk.1; rw [e] at this; omega
  exact ⟨c.blk h1 (fun e => by rw [e] at h2; omega), ⟨h2, h2'⟩, ⟨h3, h3'⟩, hm, (h5.chg c fun k hk' => hk (by omega) hk').mono fun k hk' => hk'.more c.size, (h6.chg c fun k hk' => hk (by omega) hk').mono fun k hk' => hk'.more c.size, fun k hk => ⟨(h7 k hk).1, Nat.lt_of_lt_of_le (h7 k hk).2 c.size⟩⟩
theorem dropWhile_le (p : UInt8 → Bool) (s : Bs) : (s.dropWhile p).length ≤ s.length := (List.dropWhile_sublist p).length_le
theorem strip_len (s : Bs) : (stripF s).length ≤ s.length := by
  unfold stripF Go.Lib.trimB Go.Lib.trimLeftB Go.Lib.trimRightB
  have h1 := dropWhile_le (· == 32) ((s.takeWhile fun c => decide (c ≠ 35)).reverse.dropWhile (· == 32)).reverse
  have h2 := dropWhile_le (· == 32) (s.takeWhile fun c => decide (c ≠ 35)).reverse
  have h3 : (s.takeWhile fun c => decide (c ≠ 35)).length ≤ s.length := (List.takeWhile_sublist _).length_le
  rw [List.length_reverse] at h1 h2
  omega
def Stepped (G : Nat → Prop) (o : Option PSt) (H b : Nat) (w : World) (v : Value) (w' : World) : Prop := v = .bool o.isSome ∧ Chg (FS H G) w w' ∧ ∀ st, o = some st → RdS G w' H b st
set_option maxHeartbeats 8000000 in
set_option maxRecDepth 100000 in
theorem rdline_any {G : Nat → Prop} (s0 : Bs) (n H b : Nat) (st : PSt) (w : World) (hs : s0.length ≤ 90000) (hn : n ≤ 100000) (hl : st.l.length ≤ 100000) (hj : st.js.length ≤ 100000) (L : Lb w) (hR : RdS G w H b st) :
    Calls Tryz.prog 37 #[.pointer (some ⟨b, 0, none⟩), .string ⟨s0.toArray⟩, .int .i64 n] w (RetV fun v w' => Stepped G (stepF n st s0) H b w v w') := by
  have HL := Lib.hid L
  have HR := Lib.hid hR
  obtain ⟨m, hm⟩ := L.mx
  have H0 := Lib.hid (Tryz.strings_Cut ⟨s0.toArray⟩ ⟨#[35]⟩ m w (by show s0.toArray.size < _; simp; omega) hm)
  have e0 : (ByteArray.mk #[35]).data.toList = [35] := rfl
  have e1 : (ByteArray.mk s0.toArray).data.toList = s0 := rfl
  obtain ⟨c1, c2, c3⟩ := cut_at 35 s0
  rw [e0, e1, c1, c2, c3] at H0
  have hT : Go.Lib.trimB (s0.takeWhile fun c => decide (c ≠ 35)) 32 = stripF s0 := rfl
  have hS : stepF n st s0 = stepF n st s0 := rfl
  have hsl := strip_len s0
  have htl : (s0.takeWhile fun c => decide (c ≠ 35)).length ≤ s0.length := (List.takeWhile_sublist _).length_le
  conv at hS => rhs; unfold stepF
  generalize (s0.takeWhile fun c => decide (c ≠ 35)) = U at *
  have H1 := Lib.hid fun w => Tryz.strings_Trim_one ⟨U.toArray⟩ 32 (by decide) w (by show U.toArray.size ≤ _; simp; omega)
  have e2 : (ByteArray.mk U.toArray).data.toList = U := rfl
  simp only [e2, hT] at H1
  generalize stripF s0 = S at *
  generalize stepF n st s0 = o at *
  have HS := Lib.hid hS
  have hSl : S.length ≤ 90000 := by omega
  clear e0 e1 e2 c1 c2 c3 hT hS hsl htl hm hR L
  go_enter Tryz.func37, Tryz.ntmps37
  go_wp2_with fail
  refine H0.out.mono ?_
  rintro e w1 ⟨rfl, nd, hw1⟩
  subst hw1
  go_wp2_with fail
  refine (H1.out _).mono ?_
  rintro e w2 ⟨rfl, hw2⟩
  have HC2 : Hid (Chg NoB w w2) := Lib.hid (by
    rcases hw2 with rfl | rfl
    · exact (Chg.refl NoB w).drewN nd
    · exact ((Chg.refl NoB w).drewN nd).drew)
  clear hw2
  by_cases hS0 : S = []
  · subst hS0
    have HO : Hid (o = some st) := Lib.hid (by rw [HS.out, if_pos rfl])
    go_wp2_with fail
    go_ret
    exact ⟨_, rfl, by rw [HO.out]; rfl, HC2.out.mono fun _ _ h => h.elim, fun st' h => by rw [HO.out] at h; cases h; exact HR.out.chg0 HC2.out⟩
  · have hS1 := HS.out
    rw [if_neg hS0] at hS1
    have HS1 := Lib.hid hS1
    have n1 : (S = []) = False := eq_false hS0
    have n2 : S.isEmpty = false := by cases S with | nil => exact absurd rfl hS0 | cons a b => rfl
    have n3 : (S == []) = false := by rw [beq_eq_false_iff_ne]; exact hS0
    have bl := bl_list S
    have H2 := Lib.hid fun w => Tryz.strings_CutSuffix ⟨S.toArray⟩ ⟨#[58]⟩ w (by show S.toArray.size ≤ _; simp; omega)
    have e2 : (ByteArray.mk #[58]).data.toList = [58] := rfl
    have e3 : (ByteArray.mk S.toArray).data.toList = S := rfl
    obtain ⟨s1, s2⟩ := suf_at 58 S
    simp only [e2, e3, s1, s2] at H2
    clear e2 e3 s1 s2 hS1
    go_wp2_with fail
    refine (H2.out _).mono ?_
    rintro e w3 ⟨rfl, hw3⟩
    subst hw3
    by_cases h58 : S.getLast? = some 58
    · have hS2 := HS1.out
      rw [if_pos h58] at hS2
      have HS2 := Lib.hid hS2
      rw [decide_eq_true h58, if_pos h58]
      have hdl : S.dropLast.length ≤ 90000 := by rw [List.length_dropLast]; omega
      obtain ⟨N, hN⟩ : ∃ N, S.dropLast = N := ⟨_, rfl⟩
      rw [hN] at HS2 hdl ⊢
      clear hS2 h58 hN n1 n2 n3 bl
      obtain ⟨t, lv, mb, jv, hX⟩ := HR.out.chg0 HC2.out
      obtain ⟨lp, lc, hlv⟩ := Own.slice hX.2.2.2.2.1
      subst hlv
      have HX := Lib.hid hX
      have b1 := hX.1.cell' (i := 1) (v := .map (some mb)) rfl
      have b0 := hX.1.cell' (i := 0) (v := .slice lp st.l.length lc) rfl
      have hlk := Srun_look2 (P := Tryz.prog) (t := 68) (kt := 9) (e := 3) (z := .int .i64 0) rfl rfl rfl rfl hX.2.2.2.1 ⟨N.toArray⟩
      rw [smlook_lC] at hlk
      have HLN : Hid (N.length ≤ 100000) := Lib.hid (by omega)
      clear hX
      cases hq : lookL st.ls N with
      | some q =>
        have HO : Hid (o = none) := Lib.hid (by rw [HS2.out, hq]; rfl)
        rw [hq] at hlk
        simp only [Option.map_some, Option.getD_some, Option.isSome_some] at hlk
        clear hq
        go_wp2_with fail
        go_ret
        exact ⟨_, rfl, by rw [HO.out]; rfl, HC2.out.mono fun _ _ h => h.elim, fun st' h => by rw [HO.out] at h; cases h⟩
      | none =>
        rw [hq] at hlk
        simp only [Option.map_none, Option.getD_none, Option.isSome_none] at hlk
        obtain ⟨yl, hyl⟩ : ∃ y, labB N = y := ⟨_, rfl⟩
        have HYL := Lib.hid hyl
        have HQ := Lib.hid hq
        clear hq hyl
        go_wp2_with fail
        refine (label_any N _ HLN.out).mono ?_
        rintro e w4 ⟨rfl, C4⟩
        have HC4 := Lib.hid C4
        rw [HYL.out]
        have b1' := C4.cell b1 id
        have b0' := C4.cell b0 id
        clear C4 hlk b1 b0
        cases yl
        · have HO : Hid (o = none) := Lib.hid (by rw [HS2.out, if_pos (.inr HYL.out)])
          go_wp2_with fail
          go_ret
          exact ⟨_, rfl, by rw [HO.out]; rfl, (HC2.out.step HC4.out).mono fun _ _ h => h.elim, fun st' h => by rw [HO.out] at h; cases h⟩
        · have HO : Hid (o = some ⟨st.l, st.ls ++ [(N, st.l.length)], st.js⟩) := Lib.hid (by rw [HS2.out, HQ.out, HYL.out, if_neg (by simp)])
          go_wp2_with fail
          refine wp_region_plan 10 [] [0, 1, 2, 3, 4, 5, 6, 7, 8, 9] (by kernel_rfl) (by kernel_rfl) (fun _ _ _ _ _ h => h) ?_
          simp only [pickOps_nil, pickOps_cons, Option.getD_some, List.getElem?_toArray, List.getElem?_cons_zero, List.getElem?_cons_succ, List.cons_append, List.nil_append, List.drop_succ_cons, List.drop_zero]
          repeat (go_big_quiet_step (fail))
          refine wpQuiet_nil ?_
          intro w5 hw5
          have C5 := Chg.of_ex hw5
          clear hw5
          have hM5 := (HX.out.chg0 (HC4.out.step C5)).2.2.2.1
          have HC5 := Lib.hid (HC4.out.step C5)
          clear C5 b1' b0'
          go_wp2_with (refine wpList_smapput rfl _ _ _ 68 9 3 rfl rfl rfl rfl hM5 ⟨N.toArray⟩ rfl (.int .i64 st.l.length) rfl ?_)
          intro w6 hM6 C6
          rw [smput_lC HQ.out] at hM6
          have HX6 := Lib.hid ((HX.out.chg0 HC5.out).mp hM6 C6)
          have HC6 : Hid (Chg (FS H G) w w6) := Lib.hid (((HC2.out.step HC5.out).mono (S' := FS H G) fun _ _ h => h.elim).step (C6.mono fun k _ h => by rw [h]; exact ⟨HX.out.2.2.1.2, fun hg => by have h8 := (HX.out.2.2.2.2.2.2 mb hg).1; have h9 := HX.out.2.2.1.1; omega⟩))
          clear hM6 C6 hM5
          go_wp2_with fail
          go_ret
          exact ⟨_, rfl, by rw [HO.out]; rfl, HC6.out, fun st' h => by rw [HO.out] at h; cases h; exact ⟨_, _, _, _, HX6.out⟩⟩
    · have hS2 := HS1.out
      rw [if_neg h58] at hS2
      have HS2 := Lib.hid hS2
      rw [decide_eq_false h58, if_neg h58]
      have HLS : Hid (S.length ≤ 90000) := Lib.hid hSl
      clear hS2 h58 n1 n2 n3 bl
      go_wp2_with fail
      refine (line_any S _ (by have := HLS.out; omega) (HL.out.chg0 HC2.out)).mono ?_
      rintro e w4 ⟨rfl, C4⟩
      have HC4 := Lib.hid (HC2.out.step C4)
      clear C4
      cases hlp : lineP S with
      | none =>
        have hS3 := HS2.out
        rw [hlp] at hS3
        have HS3 := Lib.hid hS3
        rw [lineV_none hlp]
        have HC5 : Hid (Chg NoB w (w4.alloc (.cells (ic ⟨0, 0, 0, 0, 0⟩) 24))) := Lib.hid (HC4.out.alloc _)
        clear hlp hS3
        have HNM := Lib.hid (named_any S n H b st (w4.alloc (.cells (ic ⟨0, 0, 0, 0, 0⟩) 24)) HLS.out hn hl hj (HL.out.chg0 HC5.out) (HR.out.chg0 HC5.out))
        go_wp2_with fail
        refine HNM.out.mono ?_
        rintro e w6 ⟨v6, rfl, hv6, C6, h6⟩
        subst hv6
        have HC6 := Lib.hid C6
        have H6 := Lib.hid h6
        obtain ⟨on, hon⟩ : ∃ on, namedP S = on := ⟨_, rfl⟩
        rw [hon] at HS3 H6
        rw [hon]
        clear C6 h6 hon
        go_wp2_with fail
        go_ret
        have hCt : Chg (FS H G) w w6 := (HC5.out.mono (S' := FS H G) fun _ _ h => h.elim).step HC6.out
        cases on with
        | none => exact ⟨_, rfl, by rw [HS3.out]; rfl, hCt, fun st' h => by rw [HS3.out] at h; cases h⟩
        | some p =>
          obtain ⟨x, nm⟩ := p
          exact ⟨_, rfl, by rw [HS3.out]; rfl, hCt, fun st' h => by rw [HS3.out] at h; cases h; exact H6.out x nm rfl⟩
      | some x =>
        have hS3 := HS2.out
        rw [hlp] at hS3
        have HS3 : Hid (o = some ⟨st.l ++ [x], st.ls, st.js⟩) := Lib.hid hS3
        rw [lineV_some hlp]
        have HC5 : Hid (Chg NoB w (w4.alloc (.cells (ic x) 24))) := Lib.hid (HC4.out.alloc _)
        have HBx := Lib.hid (Blk.new w4 (ic x) 24)
        clear hlp hS3
        obtain ⟨t, lv, mb, jv, hX⟩ := HR.out
        obtain ⟨lp, lc, hlv⟩ := Own.slice hX.2.2.2.2.1
        subst hlv
        have HX := Lib.hid hX
        have hbw := hX.1.lt
        clear hX
        have b0 := (HC5.out.blk0 HX.out.1).cell' (i := 0) (v := .slice lp st.l.length lc) rfl
        have z0 := HBx.out.cell' (i := 0) (v := .int .i64 x.op) rfl
        have z1 := HBx.out.cell' (i := 1) (v := .int .i64 x.rd) rfl
        have z2 := HBx.out.cell' (i := 2) (v := .int .i64 x.rs) rfl
        have z3 := HBx.out.cell' (i := 3) (v := .int .i64 x.rt) rfl
        have z4 := HBx.out.cell' (i := 4) (v := .int .i64 x.im) rfl
        go_wp2_with fail
        refine wp_region_take 8 [0, 1, 2, 3, 4, 5] [6, 7] (fun w' => w'.cell? ⟨b, 0, none⟩ = some (.slice lp st.l.length lc) ∧ w'.cell? ⟨w4.heap.size, 0, none⟩ = some (.int .i64 x.op) ∧ w'.cell? ⟨w4.heap.size, 1, none⟩ = some (.int .i64 x.rd) ∧ w'.cell? ⟨w4.heap.size, 2, none⟩ = some (.int .i64 x.rs) ∧ w'.cell? ⟨w4.heap.size, 3, none⟩ = some (.int .i64 x.rt) ∧ w'.cell? ⟨w4.heap.size, 4, none⟩ = some (.int .i64 x.im)) (by kernel_rfl) (by kernel_rfl) (fun _ _ _ _ _ h => h) (⟨b0, z0, z1, z2, z3, z4⟩) ?_
        simp only [pickOps_nil, pickOps_cons, Option.getD_some, List.getElem?_toArray, List.getElem?_cons_zero, List.getElem?_cons_succ, List.cons_append, List.nil_append, List.drop_succ_cons, List.drop_zero]
        repeat
          refine wpTake_cons' rfl ?_
          apply Exists.intro
          refine ⟨fun wS hS => ?_, ?_⟩
          · try dsimp only at hS
            obtain ⟨b0, z0, z1, z2, z3, z4⟩ := hS
            go_simp
            try rfl
          simp only [Act.put, List.setIfInBounds_toArray, List.set_cons_zero, List.set_cons_succ]
        refine wpTake_nil ?_
        refine wpForce_cons rfl (fun K hK => ?_)
        go_simp
        have C13 : Chg NoB (w4.alloc (.cells (ic x) 24)) ((w4.alloc (.cells (ic x) 24)).alloc (.cells #[.int .i64 x.op, .int .i64 x.rd, .int .i64 x.rs, .int .i64 x.rt, .int .i64 x.im] 24)).drew := ((Chg.refl NoB _).alloc _).drew
        have hrow : Sl ((w4.alloc (.cells (ic x) 24)).alloc (.cells #[.int .i64 x.op, .int .i64 x.rd, .int .i64 x.rs, .int .i64 x.rt, .int .i64 x.im] 24)).drew (fun k => k = (w4.alloc (.cells (ic x) 24)).heap.size) 5 (.slice (some ⟨(w4.alloc (.cells (ic x) 24)).heap.size, 0, none⟩) 1 1) 1 [.int .i64 x.op, .int .i64 x.rd, .int .i64 x.rs, .int .i64 x.rt, .int .i64 x.im] :=
          (Sl.fresh (w4.alloc (.cells (ic x) 24)) [.int .i64 x.op, .int .i64 x.rd, .int .i64 x.rs, .int .i64 x.rt, .int .i64 x.im] 24 1 rfl).chg (Chg.refl NoB _).drew fun _ _ => id
        have hz : (w4.alloc (.cells (ic x) 24)).heap.size = w4.heap.size + 1 := by simp
        refine hK _ _ ⟨C13.cell b0 id, C13.cell z0 id, C13.cell z1 id, C13.cell z2 id, C13.cell z3 id, C13.cell z4 id⟩ ?_
        clear hK K
        rw [hz] at hrow
        have hBx := C13.blk0 HBx.out
        have C113 := HC5.out.step C13
        clear C13 hz
        generalize hw13 : ((w4.alloc (.cells (ic x) 24)).alloc (.cells #[.int .i64 x.op, .int .i64 x.rd, .int .i64 x.rs, .int .i64 x.rt, .int .i64 x.im] 24)).drew = w13 at hrow hBx C113
        rw [show ((w4.alloc (.cells #[.int .i64 x.op, .int .i64 x.rd, .int .i64 x.rs, .int .i64 x.rt, .int .i64 x.im] 24)).alloc (.cells #[.int .i64 x.op, .int .i64 x.rd, .int .i64 x.rs, .int .i64 x.rt, .int .i64 x.im] 24)).drew = w13 from hw13]
        refine wpForce_cons rfl (fun K2 hK2 => ?_)
        obtain ⟨j0, hj0, hjz0, hjz1, hjz2⟩ := info_parts INinfo
        have hone : ∀ u ∈ [Value.int .i64 x.op, .int .i64 x.rd, .int .i64 x.rs, .int .i64 x.rt, .int .i64 x.im], u.oneCell' = true := by simp [Value.oneCell']
        have hO13 := HX.out.2.2.2.2.1.chg0 C113
        refine opwp_app (v := .slice lp st.l.length lc) _ _ 36 rfl j0 _ 40 Tryz.underlying36 hj0 hjz0 hjz1 hjz2 rfl (by rfl) hO13 _ 1 _ (by rfl) hrow hone (by unfold maxLen; omega) (by omega) ?_
        intro v14 w14 o14 g14 _
        obtain ⟨p14, c14, rfl⟩ := o14.form
        have hOB := HX.out.2.2.2.2.1.ownBlock
        have C14 : Chg (fun k => (Value.slice lp st.l.length lc).ownBlock = some k) w13 w14 := (Chg.refl _ w13).grown g14 (fun k hk => .inl hk)
        have hb3 : ¬ (Value.slice lp st.l.length lc).ownBlock = some b := fun e => by
          have h1 := (hOB _ e).1.1
          have h2 := HX.out.2.1.1
          omega
        have hgx : w.heap.size ≤ w4.heap.size := HC4.out.size
        have hx3 : ¬ (Value.slice lp st.l.length lc).ownBlock = some w4.heap.size := fun e => by
          have h1 := (hOB _ e).2
          omega
        have hBb14 := C14.blk (C113.blk0 HX.out.1) hb3
        have hBx14 := C14.blk hBx hx3
        have v0 := hBb14.cell' (i := 0) (v := .slice lp st.l.length lc) rfl
        have y0 := hBx14.cell' (i := 0) (v := .int .i64 x.op) rfl
        have y1 := hBx14.cell' (i := 1) (v := .int .i64 x.rd) rfl
        have y2 := hBx14.cell' (i := 2) (v := .int .i64 x.rs) rfl
        have y3 := hBx14.cell' (i := 3) (v := .int .i64 x.rt) rfl
        have y4 := hBx14.cell' (i := 4) (v := .int .i64 x.im) rfl
        have vf := hBb14.frozen 0
        have vl := hBb14.lt
        refine hK2 _ _ ⟨v0, y0, y1, y2, y3, y4⟩ ?_
        refine wpForce_nil ?_
        obtain ⟨hX15, hC15⟩ := HX.out.li C113 o14 g14 (l := st.l ++ [x]) (by simp) (iC_app ..).symm
        have HX15 := Lib.hid hX15
        have HC15 := Lib.hid hC15
        clear hK2 K2 hw13 g14 o14 hO13 hone hrow hBb14 hBx14 C14 C113 y0 y1 y2 y3 y4 hX15 hC15 hOB hb3 hx3 hj0 hjz0 hjz1 hjz2 b0 z0 z1 z2 z3 z4
        go_wp2_with fail
        go_ret
        exact ⟨_, rfl, by rw [HS3.out]; rfl, HC15.out, fun st' h => by rw [HS3.out] at h; cases h; exact ⟨_, _, _, _, HX15.out⟩⟩
end Go.Proofs.YtfidiiifcmmffaaGreatDoor
