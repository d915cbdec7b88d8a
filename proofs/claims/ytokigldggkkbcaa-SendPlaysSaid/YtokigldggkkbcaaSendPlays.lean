/- SendPlays returns true, whatever it is given. -/
import Derived.Test.YtokigldggkkbcaaSendKeeps
import Derived.Test.YtokigldggkkbcaaSendBytes
import Derived.Test.YtokigldggkkbcaaBranch
set_option linter.unusedVariables false
namespace Go.Proofs.Ytokigldggkkbcaa
open Go.RowKit Go.RR

theorem U8info' : (Try.prog.info? 5).map (fun i => (i.zero, i.size, i.bytes)) = some (some (.int .u8 0), 1, 1) := by kernel_rfl

def PInv (w : World) (b c0 : Nat) (W wt lo : Int) (k : Nat) (nw : Value) (wr : World) : Prop :=
  ∃ (off : List ByteArray) (c : Nat) (fl : List Fl) (line : List ByteArray) (next nv : Int) (S R : Nat → Prop), nw = .int .i64 nv ∧ 0 ≤ nv ∧ nv ≤ 20 * k ∧ off.length ≤ k ∧ SendAt S wr b W wt lo line fl next ∧ RefS R wr c0 W wt lo line fl next ∧ (∀ q, S q → w.heap.size ≤ q ∧ ¬ R q) ∧
    (∀ q, R q → w.heap.size ≤ q) ∧ Flow off c line fl next ∧ (fl.length : Int) ≤ W ∧ (∀ s ∈ off, s.size ≤ 4120) ∧ Chg NoB w wr

theorem RefS.offered {R : Nat → Prop} {w0 w1 : World} {c0 : Nat} {W wt lo next : Int} {line : List ByteArray} {fl : List Fl} {lv fv p9 : _} {c9 : Nat} {bs : ByteArray} (hcS : R c0)
    (hB : Blk w0 c0 #[.int .i64 W, .int .i64 wt, .int .i64 lo, lv, fv, .int .u64 next] 93) (hF : Sl w0 (fun k => R k ∧ k ≠ c0) 4 fv fl.length (bcells fl)) (hR : ∀ q, R q → q < w0.heap.size) (C : Chg NoB w0 w1)
    (o : Own w1 (fun k => w0.heap.size ≤ k) 9 1 (.slice p9 (line.length + 1) c9) (line.length + 1) ((line ++ [bs]).map Value.string)) :
    RefS (fun q => R q ∨ w0.heap.size ≤ q) (w1.setCell ⟨c0, 3, none⟩ (.slice p9 (line.length + 1) c9)) c0 W wt lo (line ++ [bs]) fl next := by
  have E := (Chg.refl (fun k => k = c0) w1).setCell (a := ⟨c0, 3, none⟩) (.inl rfl) (.slice p9 (line.length + 1) c9)
  have hc := hR c0 hcS
  refine ⟨.slice p9 (line.length + 1) c9, fv, .inl hcS, (C.blk0 hB).set 3 _, ?_, ?_⟩
  · rw [List.length_append, List.length_cons, List.length_nil]
    exact (o.sl.chg E fun k hk e => by omega).mono fun k hk => ⟨.inr hk, by omega⟩
  · exact ((hF.chg0 C).chg E fun k hk e => hk.2 e).mono fun k hk => ⟨.inl hk.1, hk.2⟩

set_option maxHeartbeats 8000000 in
set_option maxRecDepth 100000 in
theorem sendPlays_any (W wt lo : Int) (sv : Value) (ops : List OpV) (w : World) (hs : Sl w (fun k => k < w.heap.size) 4 sv ops.length (ocells ops)) (hp : OpsOk w ops) (hlen : ops.length ≤ 9223372036854775807) :
    Calls Try.prog 10 #[.agg #[.int .i64 W, .int .i64 wt, .int .i64 lo], sv] w (RetW (.bool true) fun w' => Chg NoB w w') := by
  obtain ⟨i0, hi0, hz0, hz1, hz2⟩ := info_parts SSinfo'
  obtain ⟨p, cap, rfl⟩ := hs.form
  have B0 := Blk.new w #[.int .i64 W, .int .i64 wt, .int .i64 lo] 80
  have A0 := (Chg.refl NoB w).alloc (.cells #[.int .i64 W, .int .i64 wt, .int .i64 lo] 80)
  have HS := Lib.hid hs
  have HP := Lib.hid hp
  clear hs hp
  go_enter Try.func10, Try.ntmps10
  go_wp2_with fail
  refine (first17 _).mono ?_
  rintro e w1 ⟨rfl, C1⟩
  have hz0' := A0.size
  have hwl := B0.lt
  have B1 := C1.blk0 B0
  have h1 := A0.step C1
  have h1s := C1.size
  have x0 := B1.cell' (i := 0) (v := .int .i64 W) (by rfl)
  have x1 := B1.cell' (i := 1) (v := .int .i64 wt) (by rfl)
  have x2 := B1.cell' (i := 2) (v := .int .i64 lo) (by rfl)
  have HC1 := Lib.hid h1
  have hbl := B1.lt
  have HB1 := Lib.hid B1
  obtain ⟨bw, hbw⟩ : ∃ bw, w.heap.size = bw := ⟨_, rfl⟩
  have HBW := Lib.hid hbw
  simp only [hbw] at x0 x1 x2 hbl
  clear B0 A0 C1 B1 h1 hz0' hwl h1s hbw
  rw [HBW.out]
  by_cases hr : RightS W wt lo
  · go_wp2_with fail
    refine (sendNew W wt lo w1 hr).mono ?_
    rintro e w2 ⟨_, rfl, b, rfl, G2, C2⟩
    replace x0 := C2.cell x0 id
    replace x1 := C2.cell x1 id
    replace x2 := C2.cell x2 id
    have hlo := hr
    have HR := Lib.hid hr
    have hz2' := C2.size
    have hz1' := HC1.out.size
    have h2 := HC1.out.step C2
    have D3 := (Chg.refl NoB w2).alloc (.cells #[.int .i64 W, .int .i64 wt, .int .i64 lo, .slice none 0 0, .slice none 0 0, .int .u64 1] 93)
    obtain ⟨c0, hc0⟩ : ∃ c0, w2.heap.size = c0 := ⟨_, rfl⟩
    have hK : PInv w b c0 W wt lo 0 (.int .i64 0) (w2.alloc (.cells #[.int .i64 W, .int .i64 wt, .int .i64 lo, .slice none 0 0, .slice none 0 0, .int .u64 1] 93)) := by
      subst hc0
      refine ⟨[], 0, [], [], 1, 0, fun k => w1.heap.size ≤ k ∧ k < w2.heap.size, fun k => k = w2.heap.size, rfl, by omega, by omega, by simp, (G2.bound fun q a b => ⟨b, a⟩).chg0 D3, ?_, fun q h => ⟨by omega, by omega⟩, fun q h => by omega, ⟨fun i f hf => by simp at hf, rfl, by simp, by simp⟩, ?_, by simp, h2.step D3⟩
      · exact ⟨_, _, rfl, Blk.new w2 _ 93, Sl.nil _ _ _, Sl.nil _ _ _⟩
      · have := hr.1; simp; omega
    have HC0 := Lib.hid hc0
    clear hr G2 C2 h2 D3 hz2' hz1' hc0 HBW HB1
    go_wp2_with fail
    refine (rightAt W wt lo w2 true (by simp [hlo])).mono ?_
    rintro e w3 ⟨rfl, rfl⟩
    clear hlo
    go_wp2_with fail
    rw [HC0.out]
    go_loopg [10, 104] ops.length (fun m nw ix wr => ∃ k : Nat, k + m = ops.length ∧ k ≤ 80 ∧ ix = .int .i64 k ∧ PInv w b c0 W wt lo k nw wr)
    case atStart => exact ⟨0, by omega, by omega, rfl, hK⟩
    case round =>
      try clear x0 x1 x2
      obtain ⟨k, hk, hk80, rfl, hI⟩ := hrel
      obtain ⟨off, c, fl, line, next, nv, S, R, rfl, hn0, hn1, hol, hG, hRf, hSH, hRH, hFlow, hflW, hoff, hC⟩ := hI
      have HK := Lib.hid hk
      have hkl : k ≤ ops.length := by omega
      obtain ⟨S', hG, hS1⟩ : ∃ S' : Nat → Prop, SendAt S' wr b W wt lo line fl next ∧ ∀ q, S' q → S q ∧ q < wr.heap.size := ⟨_, hG.bound (S' := fun q => S q ∧ q < wr.heap.size) fun q a b => ⟨b, a⟩, fun q h => h⟩
      obtain ⟨R', hRf, hS2⟩ : ∃ R' : Nat → Prop, RefS R' wr c0 W wt lo line fl next ∧ ∀ q, R' q → R q ∧ q < wr.heap.size := ⟨_, hRf.bound (S' := fun q => R q ∧ q < wr.heap.size) fun q a b => ⟨b, a⟩, fun q h => h⟩
      have hSH : ∀ q, S' q → (w.heap.size ≤ q ∧ q < wr.heap.size) ∧ ¬ R' q := fun q h => ⟨⟨(hSH q (hS1 q h).1).1, (hS1 q h).2⟩, fun e => (hSH q (hS1 q h).1).2 (hS2 q e).1⟩
      have hRH : ∀ q, R' q → w.heap.size ≤ q ∧ q < wr.heap.size := fun q h => ⟨hRH q (hS2 q h).1, (hS2 q h).2⟩
      clear hS1 hS2
      clear hK hk
      by_cases hlt : k < ops.length
      · obtain ⟨o, ho⟩ : ∃ o, ops[k]? = some o := ⟨ops[k], by simp [hlt]⟩
        obtain ⟨⟨ha0, ha1⟩, hb0, hv⟩ := HP.out o (List.mem_of_getElem? ho)
        obtain ⟨-, p', c', e, hcp, hcells⟩ := HS.out
        cases e
        obtain ⟨g, of, rfl, hg, hgl, hcell⟩ := hcells (by omega)
        obtain ⟨a0, a1, a2, a3⟩ := ocells_at _ k o ho
        have k0 := hC.cell (hcell _ _ a0) id
        have k1 := hC.cell (hcell _ _ a1) id
        have k2 := hC.cell (hcell _ _ a2) id
        have k3 := hC.cell (hcell _ _ a3) id
        rw [← Nat.add_assoc] at k1 k2 k3
        obtain ⟨pv, cv, hov⟩ := hv.form
        rw [hov] at hv k3
        have l0 : (0 : Int) ≤ k := by omega
        have l1 : (k : Int) < ops.length := by omega
        have HV := Lib.hid hv
        have HG := Lib.hid hG
        have HRF := Lib.hid hRf
        have HSH := Lib.hid hSH
        have HRH := Lib.hid hRH
        have HFL := Lib.hid hFlow
        have HOF := Lib.hid hoff
        have HC := Lib.hid hC
        have hgw : g < wr.heap.size := Nat.lt_of_lt_of_le hgl hC.size
        obtain ⟨u, hu, hu2⟩ := wrap_nat o.kind
        obtain ⟨vi, hvi, hvi2⟩ := wrap_nat o.i
        obtain ⟨kind, oi, ack, ov', bs⟩ := o
        simp only at *
        clear hcells hcell a0 a1 a2 a3 ho hv hG hRf hSH hRH hFlow hoff hC hov
        by_cases hk2 : k = 80
        · subst hk2
          go_wp2
          go_ret
          exact ⟨rfl, HC.out.alloc _⟩
        · have hk3 : decide ((80 : Int) ≤ k) = false := by simp; omega
          by_cases hsz : 5000 < bs.size
          · have hsz' : decide ((5000 : Int) < bs.size) = true := by simp; omega
            clear hk2
            go_wp2
            go_ret
            exact ⟨rfl, HC.out.alloc _⟩
          · have hsz' : decide ((5000 : Int) < bs.size) = false := by simp; omega
            have hbs : bs.size ≤ 5000 := by omega
            have hk79 : k + 1 ≤ 80 := by omega
            have E1 := ((Chg.refl NoB wr).alloc (.cells #[.int .i64 kind, .int .i64 oi, .int .u64 ack, .slice pv bs.size cv] 95))
            have B1 := Blk.new wr #[.int .i64 kind, .int .i64 oi, .int .u64 ack, .slice pv bs.size cv] 95
            clear hk2 hsz
            go_upto_block 2 with fail
            have hwl := E1.size
            have hza := HC.out.size
            have HGa := Lib.hid (HG.out.chg0 E1)
            have HRa := Lib.hid (HRF.out.chg0 E1)
            have HCa := Lib.hid (HC.out.step E1)
            have HVa := Lib.hid (HV.out.chg0 (HC.out.step E1))
            have x0 := B1.cell' (i := 0) (v := .int .i64 kind) (by rfl)
            have x1 := B1.cell' (i := 1) (v := .int .i64 oi) (by rfl)
            have x2 := B1.cell' (i := 2) (v := .int .u64 ack) (by rfl)
            have x3 := B1.cell' (i := 3) (v := .slice pv bs.size cv) (by rfl)
            have xl := B1.lt
            have HB1 := Lib.hid B1
            generalize hwa : wr.alloc (.cells #[.int .i64 kind, .int .i64 oi, .int .u64 ack, .slice pv bs.size cv] 95) = wa at *
            clear k0 k1 k2 k3 hwa B1
            go_cut [10] (fun nw wx => PInv w b c0 W wt lo (k + 1) nw wx)
            case first =>
              by_cases hr0 : u % 4 = 0
              · have d0 : ((u : Int) % 4 == 0) = true := by simp; omega
                clear hr0
                have hll := HFL.out.lineLen
                by_cases hbig : 4120 < bs.size
                · as_aux_lemma =>
                  have dle : decide ((bs.size : Int) ≤ 4120) = false := by simp; omega
                  have dle' : decide (bs.size ≤ 4120) = false := by simp; omega
                  -- Offer of a copy, the copy written over; $big: more than 4120 bytes
                  obtain ⟨iu, hiu, hzu0, hzu1, hzu2⟩ := info_parts U8info'
                  have A4 := (Chg.refl NoB wa).alloc (.cells #[] 5)
                  have oA : Own (wa.alloc (.cells #[] 5)) (fun k => k = wa.heap.size) 5 1 (.slice (some ⟨wa.heap.size, 0, none⟩) 0 0) 0 [] := Own.fresh wa [] 5 0 rfl (by unfold maxLen; omega)
                  have sA := HVa.out.chg0 A4
                  have b1 : 0 + bs.size ≤ maxLen := by unfold maxLen; omega
                  have b2 : (0 + bs.size) * 1 ≤ 140737488355328 := by omega
                  have one1 := byteCells_one bs
                  go_wp2_with (at_builtin; go_must (refine wpList_app rfl _ _ 22 rfl iu _ 1 Try.underlying22 hiu hzu0 hzu1 hzu2 rfl rfl oA _ bs.size _ rfl sA one1 b1 b2 ?_))
                  intro v5 w5 o5 g5 _
                  try rw [Nat.zero_add, List.nil_append] at o5
                  have C5 : Chg NoB wa w5 := A4.grown g5 (fun j hj => .inr (by simp [Value.ownBlock] at hj; omega))
                  have hz5 := C5.size
                  obtain ⟨So, hSo, o5⟩ : ∃ So : Nat → Prop, (∀ q, So q → wa.heap.size ≤ q ∧ q < w5.heap.size) ∧ Own w5 So 5 1 v5 bs.size (byteCells bs) := ⟨fun q => wa.heap.size ≤ q ∧ q < w5.heap.size, fun q h => h, o5.monoIn fun q hq h => ⟨by
                    rcases h with h | h
                    · simp [Value.ownBlock] at h; omega
                    · first | omega | (simp at h; omega), hq⟩⟩
                  obtain ⟨p5, c5, rfl⟩ := o5.form
                  have y3 := C5.cell x3 id
                  have HO5 := Lib.hid o5
                  have HSO := Lib.hid hSo
                  have HC5 := Lib.hid C5
                  clear A4 oA sA b1 b2 one1 o5 g5 hSo C5 x0 x1 x2 x3
                  go_wp2_with fail
                  refine wp_region_take 7 [0, 1, 3, 4, 5, 6] [2] (fun w' => w'.cell? ⟨wr.heap.size, 3, none⟩ = some (.slice pv bs.size cv)) (by kernel_rfl) (by kernel_rfl) (fun _ _ _ _ _ h => h) (y3) ?_
                  simp only [pickOps_nil, pickOps_cons, Option.getD_some, List.getElem?_toArray, List.getElem?_cons_zero, List.getElem?_cons_succ, List.cons_append, List.nil_append, List.drop_succ_cons, List.drop_zero]
                  repeat
                    refine wpTake_cons' rfl ?_
                    apply Exists.intro
                    refine ⟨fun wS hS => ?_, ?_⟩
                    · try dsimp only at hS
                      obtain k3 := hS
                      go_simp
                      try rfl
                    simp only [Act.put, List.setIfInBounds_toArray, List.set_cons_zero, List.set_cons_succ]
                  refine wpTake_nil ?_
                  refine wpForce_cons rfl (fun K hK => ?_)
                  go_simp
                  refine (offerBig (S := S') (b := b) _ _ _ _ hbig).mono ?_
                  rintro e w6 ⟨rfl, C6'⟩
                  have C6 := C6'.undrew
                  refine hK _ _ (C6.cell y3 id) ?_
                  refine wpForce_nil ?_
                  have C56 := HC5.out.step C6
                  have HG6 := Lib.hid (HGa.out.chg0 C56)
                  have HR6 := Lib.hid (HRa.out.chg0 C56)
                  have HC6 := Lib.hid (HCa.out.step C56)
                  have hY6 := (Bytes.of HO5.out).chg0 C6
                  have B6 := C56.blk0 HB1.out
                  have hz6 := C6.size
                  clear hK K y3 C6' C6 C56 hbig
                  go_wp2_with fail
                  -- for k := range own: own[k]++; the copy's blocks So, world w6
                  have HB6 := Lib.hid B6
                  clear B6
                  go_loopg [146] bs.size (fun m ix wx => ∃ i : Nat, i + m = bs.size ∧ ix = .int .i64 i ∧ Chg So w6 wx ∧ Bytes wx So (.slice p5 bs.size c5) bs.size)
                  case atStart => exact ⟨0, by omega, rfl, Chg.refl _ _, hY6⟩
                  case round =>
                    obtain ⟨i, hi, rfl, hCz, hYz⟩ := hrel
                    have HI := Lib.hid hi
                    have hil : i ≤ bs.size := by omega
                    clear hi
                    by_cases hlti : i < bs.size
                    · obtain ⟨g, of, x, rfl, hgS2, hgl, hgc, hgf, hnc⟩ := hYz.spot hlti
                      have i0 : (0 : Int) ≤ i := by omega
                      have i1 : (i : Int) < bs.size := by omega
                      have HCZ := Lib.hid hCz
                      have HYZ := Lib.hid hYz
                      clear hCz hYz
                      go_wp2_with fail
                      go_roundg (bs.size - (i + 1))
                      case measure => have := HI.out; omega
                      case rel => exact ⟨i + 1, by have := HI.out; omega, by go_num, HCZ.out.setCell (.inl hgS2) _, HYZ.out.put _ _ _⟩
                    · obtain rfl : i = bs.size := by have := HI.out; omega
                      have HCX := Lib.hid hCz
                      have BX := hCz.blk HB6.out (fun e => by have := HSO.out _ e; omega)
                      have y3 := BX.cell' (i := 3) (v := .slice pv bs.size cv) (by rfl)
                      have HBW6 := Lib.hid BX
                      clear hCz BX
                      clear HBW6
                      go_wp2_with fail
                      go_meet
                      refine ⟨off, c, fl, line, next, nv, S', R', rfl, hn0, by omega, by omega, HG6.out.chg HCX.out fun q hq e => ?_, HR6.out.chg HCX.out fun q hq e => ?_, fun q h => ⟨(HSH.out q h).1.1, (HSH.out q h).2⟩, fun q h => (HRH.out q h).1, HFL.out, hflW, HOF.out, HC6.out.trans HCX.out fun q hq e => ?_⟩
                      · have := (HSH.out q hq).1; have := HSO.out q e; omega
                      · have := HRH.out q hq; have := HSO.out q e; omega
                      · have := HSO.out q e; omega
                · as_aux_lemma =>
                  have dle : decide ((bs.size : Int) ≤ 4120) = true := by simp; omega
                  have dle' : decide (bs.size ≤ 4120) = true := by simp; omega
                  -- Offer of a copy, the copy written over; $big: more than 4120 bytes
                  obtain ⟨iu, hiu, hzu0, hzu1, hzu2⟩ := info_parts U8info'
                  have A4 := (Chg.refl NoB wa).alloc (.cells #[] 5)
                  have oA : Own (wa.alloc (.cells #[] 5)) (fun k => k = wa.heap.size) 5 1 (.slice (some ⟨wa.heap.size, 0, none⟩) 0 0) 0 [] := Own.fresh wa [] 5 0 rfl (by unfold maxLen; omega)
                  have sA := HVa.out.chg0 A4
                  have b1 : 0 + bs.size ≤ maxLen := by unfold maxLen; omega
                  have b2 : (0 + bs.size) * 1 ≤ 140737488355328 := by omega
                  have one1 := byteCells_one bs
                  go_wp2_with (at_builtin; go_must (refine wpList_app rfl _ _ 22 rfl iu _ 1 Try.underlying22 hiu hzu0 hzu1 hzu2 rfl rfl oA _ bs.size _ rfl sA one1 b1 b2 ?_))
                  intro v5 w5 o5 g5 _
                  try rw [Nat.zero_add, List.nil_append] at o5
                  have C5 : Chg NoB wa w5 := A4.grown g5 (fun j hj => .inr (by simp [Value.ownBlock] at hj; omega))
                  have hz5 := C5.size
                  obtain ⟨So, hSo, o5⟩ : ∃ So : Nat → Prop, (∀ q, So q → wa.heap.size ≤ q ∧ q < w5.heap.size) ∧ Own w5 So 5 1 v5 bs.size (byteCells bs) := ⟨fun q => wa.heap.size ≤ q ∧ q < w5.heap.size, fun q h => h, o5.monoIn fun q hq h => ⟨by
                    rcases h with h | h
                    · simp [Value.ownBlock] at h; omega
                    · first | omega | (simp at h; omega), hq⟩⟩
                  obtain ⟨p5, c5, rfl⟩ := o5.form
                  have y3 := C5.cell x3 id
                  have HO5 := Lib.hid o5
                  have HSO := Lib.hid hSo
                  have HC5 := Lib.hid C5
                  clear A4 oA sA b1 b2 one1 o5 g5 hSo C5 x0 x1 x2 x3
                  go_wp2_with fail
                  refine wp_region_take 7 [0, 1, 3, 4, 5, 6] [2] (fun w' => w'.cell? ⟨wr.heap.size, 3, none⟩ = some (.slice pv bs.size cv)) (by kernel_rfl) (by kernel_rfl) (fun _ _ _ _ _ h => h) (y3) ?_
                  simp only [pickOps_nil, pickOps_cons, Option.getD_some, List.getElem?_toArray, List.getElem?_cons_zero, List.getElem?_cons_succ, List.cons_append, List.nil_append, List.drop_succ_cons, List.drop_zero]
                  repeat
                    refine wpTake_cons' rfl ?_
                    apply Exists.intro
                    refine ⟨fun wS hS => ?_, ?_⟩
                    · try dsimp only at hS
                      obtain k3 := hS
                      go_simp
                      try rfl
                    simp only [Act.put, List.setIfInBounds_toArray, List.set_cons_zero, List.set_cons_succ]
                  refine wpTake_nil ?_
                  refine wpForce_cons rfl (fun K hK => ?_)
                  go_simp
                  have G5 := (HGa.out.chg0 HC5.out).chg0 (Chg.refl NoB w5).drew
                  refine (offerAt G5 _ bs (HO5.out.sl.chg0 (Chg.refl NoB w5).drew) (by omega) (by omega)).mono ?_
                  rintro e w6 ⟨rfl, G6, C6'⟩
                  have C6 := C6'.undrew
                  have hne : ¬ S' wr.heap.size := fun e => by have := (HSH.out _ e).1; omega
                  refine hK _ _ (C6.cell y3 hne) ?_
                  refine wpForce_nil ?_
                  have hz6 := C6.size
                  obtain ⟨S6, G6, hs6⟩ : ∃ S6 : Nat → Prop, SendAt S6 w6 b W wt lo (line ++ [bs]) fl next ∧ ∀ q, S6 q → (S' q ∨ w5.heap.size ≤ q) ∧ q < w6.heap.size := ⟨_, G6.bound (S' := fun q => (S' q ∨ w5.heap.size ≤ q) ∧ q < w6.heap.size) fun q a b => ⟨b, a⟩, fun q h => h⟩
                  have HG6 := Lib.hid G6
                  have HS6 := Lib.hid hs6
                  have HR6 := Lib.hid ((HRa.out.chg0 HC5.out).chg C6 fun q hq e => (HSH.out q e).2 hq)
                  have HC6 := Lib.hid ((HCa.out.step HC5.out).trans C6 fun q hq e => by have := (HSH.out q e).1; omega)
                  have hY6 : Bytes w6 So (.slice p5 bs.size c5) bs.size := Bytes.of (HO5.out.chg C6 fun q hq e => by have := HSO.out q hq; have := (HSH.out q e).1; omega)
                  have B6 := C6.blk (HC5.out.blk0 HB1.out) hne
                  have C6h := Lib.hid C6
                  clear hK K y3 C6' C6 G5 G6 hs6 hne hbig
                  go_wp2_with fail
                  obtain ⟨wo, hwo⟩ : ∃ wo, wo = wr := ⟨_, rfl⟩
                  subst hwo
                  -- for k := range own: own[k]++; the copy's blocks So, world w6
                  have HB6 := Lib.hid B6
                  clear B6
                  go_loopg [146] bs.size (fun m ix wx => ∃ i : Nat, i + m = bs.size ∧ ix = .int .i64 i ∧ Chg So w6 wx ∧ Bytes wx So (.slice p5 bs.size c5) bs.size)
                  case atStart => exact ⟨0, by omega, rfl, Chg.refl _ _, hY6⟩
                  case round =>
                    obtain ⟨i, hi, rfl, hCz, hYz⟩ := hrel
                    have HI := Lib.hid hi
                    have hil : i ≤ bs.size := by omega
                    clear hi
                    by_cases hlti : i < bs.size
                    · obtain ⟨g, of, x, rfl, hgS2, hgl, hgc, hgf, hnc⟩ := hYz.spot hlti
                      have i0 : (0 : Int) ≤ i := by omega
                      have i1 : (i : Int) < bs.size := by omega
                      have HCZ := Lib.hid hCz
                      have HYZ := Lib.hid hYz
                      clear hCz hYz
                      go_wp2_with fail
                      go_roundg (bs.size - (i + 1))
                      case measure => have := HI.out; omega
                      case rel => exact ⟨i + 1, by have := HI.out; omega, by go_num, HCZ.out.setCell (.inl hgS2) _, HYZ.out.put _ _ _⟩
                    · obtain rfl : i = bs.size := by have := HI.out; omega
                      have HCX := Lib.hid hCz
                      have BX := hCz.blk HB6.out (fun e => by have := HSO.out _ e; omega)
                      have y3 := BX.cell' (i := 3) (v := .slice pv bs.size cv) (by rfl)
                      have HBW6 := Lib.hid BX
                      clear hCz BX
                      go_wp2_with fail
                      obtain ⟨lv, fv, hcS, hB, hL, hF⟩ := HR6.out.chg HCX.out fun q hq e => by have := HRH.out q hq; have := HSO.out q e; omega
                      obtain ⟨p3, c3, rfl⟩ := hL.form
                      have hV7 := ((HVa.out.chg0 HC5.out).chg C6h.out fun q hq e => by have := (HSH.out q e).1; omega).chg HCX.out fun q hq e => by have := HSO.out q e; omega
                      have l3 := hB.cell' (i := 3) (v := .slice p3 line.length c3) (by rfl)
                      have kcv := run_text (P := Try.prog) 22 9 5 Try.underlying22 Try.underlying5 Try.underlying9 hV7
                      have HBL := Lib.hid hB
                      have HLL := Lib.hid hL
                      have HFF := Lib.hid hF
                      have HV7 := Lib.hid hV7
                      clear hB hL hF hV7
                      have hzx := HCX.out.size
                      obtain ⟨w7, hw7⟩ : ∃ w7, wr = w7 := ⟨_, rfl⟩
                      subst hw7
                      have hSS : ∀ w', Chg NoB wr.drew w' → w'.cell? ⟨c0, 3, none⟩ = some (.slice p3 line.length c3) ∧ w'.cell? ⟨wo.heap.size, 3, none⟩ = some (.slice pv bs.size cv) ∧ (convert 22 9 (.slice pv bs.size cv)).run Try.prog w' = .ok (.string bs) w' := fun w' c =>
                        ⟨c.cell l3 id, c.cell y3 id, run_text (P := Try.prog) 22 9 5 Try.underlying22 Try.underlying5 Try.underlying9 (HV7.out.chg0 (((Chg.refl NoB wr).drew).step c))⟩
                      have HSS := Lib.hid hSS
                      have hlw : line.length ≤ 200 := by have := HFL.out.lineLen; omega
                      have HLW := Lib.hid hlw
                      have HIS := Lib.hid (And.intro hi0 (And.intro hz0 (And.intro hz1 hz2)))
                      clear hSS hlw hi0 hz0 hz1 hz2
                      refine wp_region_all 12 4 [0, 2, 3, 4, 5, 7, 8, 9] (fun w' => w'.cell? ⟨c0, 3, none⟩ = some (.slice p3 line.length c3) ∧ w'.cell? ⟨wo.heap.size, 3, none⟩ = some (.slice pv bs.size cv) ∧ (convert 22 9 (.slice pv bs.size cv)).run Try.prog w' = .ok (.string bs) w') (by kernel_rfl) (by kernel_rfl) (fun _ _ _ _ _ h => h) (HSS.out _ (Chg.refl NoB _)) ?_
                      simp only [pickOps_nil, pickOps_cons, Option.getD_some, List.getElem?_toArray, List.getElem?_cons_zero, List.getElem?_cons_succ, List.cons_append, List.nil_append, List.drop_succ_cons, List.drop_zero]
                      repeat
                        refine wpTake_cons' rfl ?_
                        apply Exists.intro
                        refine ⟨fun wS hS => ?_, ?_⟩
                        · try dsimp only at hS
                          obtain ⟨k3, kb, kc⟩ := hS
                          go_simp
                          try rfl
                        simp only [Act.put, List.setIfInBounds_toArray, List.set_cons_zero, List.set_cons_succ]
                      refine wpTake_nil ?_
                      have C0 : Chg NoB wr.drew wr.drew := Chg.refl NoB _
                      refine wpAll_cons [1, 10] (by kernel_rfl) ?_
                      intro i hi
                      simp only [List.mem_cons, List.not_mem_nil, or_false] at hi
                      rcases hi with rfl | rfl
                      ·
                        refine ⟨_, rfl, rfl, fun K hK => ?_⟩
                        go_simp
                        refine hK _ _ (HSS.out _ (C0.alloc _)) ?_
                        clear hK K
                        have C1 := C0.alloc (.cells #[] 9)
                        have A1 : Own (World.alloc wr.drew (.cells #[] 9)) (fun k => k = wr.heap.size) 9 1 (.slice (some ⟨wr.heap.size, 0, none⟩) 0 0) 0 [] := by simpa using Own.fresh wr.drew [] 9 0 rfl (by unfold maxLen; omega)
                        refine wpAll_cons [6, 10] (by kernel_rfl) ?_
                        intro i hi
                        simp only [List.mem_cons, List.not_mem_nil, or_false] at hi
                        rcases hi with rfl | rfl
                        ·
                          refine ⟨_, rfl, rfl, fun K hK => ?_⟩
                          have L6 := (HLL.out.chg0 ((Chg.refl NoB wr).drew)).chg0 C1
                          have q1 : ∀ u ∈ line.map Value.string, u.oneCell' = true := by simp [Value.oneCell']
                          have q2 : 0 + line.length ≤ maxLen := by have := HLW.out; unfold maxLen; omega
                          have q3 : (0 + line.length) * 16 ≤ 140737488355328 := by have := HLW.out; omega
                          refine opwp_app (v := .slice (some ⟨wr.heap.size, 0, none⟩) 0 0) _ _ 42 rfl i0 _ 16 Try.underlying42 HIS.out.1 HIS.out.2.1 HIS.out.2.2.1 HIS.out.2.2.2 rfl rfl A1 _ line.length _ rfl L6 q1 q2 q3 ?_
                          intro v6 w8 o6 g6 _
                          simp only [Act.put, List.setIfInBounds_toArray, List.set_cons_zero, List.set_cons_succ]
                          have C6 := C1.grown g6 (fun j hj => .inr (by simp [Value.ownBlock] at hj ⊢; omega))
                          have D6 := (Chg.refl (fun k => k = wr.heap.size) _).grown g6 (fun j hj => .inl (by simp [Value.ownBlock] at hj; omega))
                          refine hK _ _ (HSS.out _ C6) ?_
                          clear hK K
                          rw [Nat.zero_add, List.nil_append] at o6
                          have A6 : Own w8 (fun k => wr.heap.size ≤ k) 9 1 v6 line.length (line.map Value.string) := o6.mono fun k hk => by simp [Value.ownBlock] at hk; omega
                          clear o6 g6 L6 q1 q2 q3
                          refine wpAll_cons [10] (by kernel_rfl) ?_
                          intro i hi
                          simp only [List.mem_cons, List.not_mem_nil, or_false] at hi
                          subst hi
                          refine ⟨_, rfl, rfl, fun K hK => ?_⟩
                          go_simp
                          refine hK _ _ (HSS.out _ (C6.alloc _)) ?_
                          clear hK K
                          have C2 := C6.alloc (.cells #[.string bs] 9)
                          have A2 : Sl (World.alloc w8 (.cells #[.string bs] 9)) (fun k => k = w8.heap.size) 1 (.slice (some ⟨w8.heap.size, 0, none⟩) 1 1) 1 [.string bs] := by simpa using (Own.fresh w8 [.string bs] 9 1 rfl (by unfold maxLen; omega)).sl
                          replace A6 := A6.chg0 ((Chg.refl NoB w8).alloc (.cells #[.string bs] 9))
                          refine wpAll_cons [11] (by kernel_rfl) ?_
                          intro i hi
                          simp only [List.mem_cons, List.not_mem_nil, or_false] at hi
                          subst hi
                          refine ⟨_, rfl, rfl, fun K hK => ?_⟩
                          have q1 : ∀ u ∈ [Value.string bs], u.oneCell' = true := by simp [Value.oneCell']
                          have q2 : line.length + 1 ≤ maxLen := by have := HLW.out; unfold maxLen; omega
                          have q3 : (line.length + 1) * 16 ≤ 140737488355328 := by have := HLW.out; omega
                          refine opwp_app (v := v6) _ _ 42 rfl i0 _ 16 Try.underlying42 HIS.out.1 HIS.out.2.1 HIS.out.2.2.1 HIS.out.2.2.2 rfl rfl A6 _ 1 _ rfl A2 q1 q2 q3 ?_
                          intro v9 w9 o9 g9 _
                          simp only [Act.put, List.setIfInBounds_toArray, List.set_cons_zero, List.set_cons_succ]
                          have hob := A6.ownBlock
                          have C9 := C2.grown g9 (fun j hj => .inr (hob j hj).1)
                          refine hK _ _ (HSS.out _ C9) ?_
                          clear hK K
                          have hzc := C2.size
                          have A9 : Own w9 (fun k => wr.heap.size ≤ k) 9 1 v9 (line.length + 1) ((line ++ [bs]).map Value.string) := by
                            rw [List.map_append, List.map_cons, List.map_nil]
                            exact o9.mono fun k hk => hk.elim (fun h => (hob k h).1) (fun h => by rw [h]; exact hzc)
                          clear o9 g9 q1 q2 q3 hob hzc A6 A2
                          refine wpAll_nil ?_
                          obtain ⟨p9, c9, rfl⟩ := A9.form
                          have C9' := ((Chg.refl NoB wr).drew).step C9
                          have B9 := C9'.blk0 HBL.out
                          have z3 := B9.cell' (i := 3) (v := .slice p3 line.length c3) (by rfl)
                          have zf := B9.frozen 3
                          have HA9 := Lib.hid A9
                          have HC9 := Lib.hid C9'
                          clear A9 C9 C9' B9 C0
                          go_wp2_with fail
                          go_meet
                          have hz9 := HC9.out.size
                          have hc0 : ¬ S' c0 := fun e => (HSH.out c0 e).2 hcS
                          have E9 := (Chg.refl (fun k => k = c0) w9).setCell (a := ⟨c0, 3, none⟩) (.inl rfl) (.slice p9 (line.length + 1) c9)
                          have hz5' := HC5.out.size
                          have hcr := HRH.out c0 hcS
                          refine ⟨off ++ [bs], c, fl, line ++ [bs], next, nv, S6, fun q => R' q ∨ wr.heap.size ≤ q, rfl, hn0, by omega, by simp; omega, ((HG6.out.chg HCX.out fun q hq e => ?_).chg0 HC9.out).chg E9 fun q hq e => ?_, RefS.offered hcS HBL.out HFF.out (fun q hq => by have := HRH.out q hq; omega) HC9.out HA9.out, fun q h => ⟨?_, fun e => ?_⟩, fun q h => h.elim (fun h => (HRH.out q h).1) (fun h => by omega), HFL.out.offer bs, hflW, ?_, ((HC6.out.trans HCX.out fun q hq e => ?_).step HC9.out).trans E9 fun q hq e => ?_⟩
                          · rcases (HS6.out q hq).1 with h | h
                            · have := (HSH.out q h).1; have := HSO.out q e; omega
                            · have := HSO.out q e; omega
                          · rcases (HS6.out q hq).1 with h | h
                            · rw [e] at h; exact hc0 h
                            · omega
                          · rcases (HS6.out q h).1 with h | h
                            · exact (HSH.out q h).1.1
                            · omega
                          · have hq6 := (HS6.out q h).2
                            rcases (HS6.out q h).1 with h | h
                            · exact e.elim (HSH.out q h).2 (fun e => by have := (HSH.out q h).1; omega)
                            · exact e.elim (fun e => by have := HRH.out q e; omega) (fun e => by omega)
                          · intro s hs
                            rcases List.mem_append.1 hs with hs | hs
                            · exact HOF.out s hs
                            · rw [List.mem_singleton.1 hs]; have := of_decide_eq_true dle; omega
                          · have := HSO.out q e; omega
                          · omega
                        ·
                          refine ⟨_, rfl, rfl, fun K hK => ?_⟩
                          go_simp
                          refine hK _ _ (HSS.out _ (C1.alloc _)) ?_
                          clear hK K
                          have C2 := C1.alloc (.cells #[.string bs] 9)
                          have A2 : Sl (World.alloc (wr.drew.alloc (.cells #[] 9)) (.cells #[.string bs] 9)) (fun k => k = (wr.heap.size + 1)) 1 (.slice (some ⟨(wr.heap.size + 1), 0, none⟩) 1 1) 1 [.string bs] := by simpa using (Own.fresh (wr.drew.alloc (.cells #[] 9)) [.string bs] 9 1 rfl (by unfold maxLen; omega)).sl
                          replace A1 := A1.chg0 ((Chg.refl NoB (wr.drew.alloc (.cells #[] 9))).alloc (.cells #[.string bs] 9))
                          refine wpAll_cons [6] (by kernel_rfl) ?_
                          intro i hi
                          simp only [List.mem_cons, List.not_mem_nil, or_false] at hi
                          subst hi
                          refine ⟨_, rfl, rfl, fun K hK => ?_⟩
                          have L6 := (HLL.out.chg0 ((Chg.refl NoB wr).drew)).chg0 C2
                          have q1 : ∀ u ∈ line.map Value.string, u.oneCell' = true := by simp [Value.oneCell']
                          have q2 : 0 + line.length ≤ maxLen := by have := HLW.out; unfold maxLen; omega
                          have q3 : (0 + line.length) * 16 ≤ 140737488355328 := by have := HLW.out; omega
                          refine opwp_app (v := .slice (some ⟨wr.heap.size, 0, none⟩) 0 0) _ _ 42 rfl i0 _ 16 Try.underlying42 HIS.out.1 HIS.out.2.1 HIS.out.2.2.1 HIS.out.2.2.2 rfl rfl A1 _ line.length _ rfl L6 q1 q2 q3 ?_
                          intro v6 w8 o6 g6 _
                          simp only [Act.put, List.setIfInBounds_toArray, List.set_cons_zero, List.set_cons_succ]
                          have C6 := C2.grown g6 (fun j hj => .inr (by simp [Value.ownBlock] at hj ⊢; omega))
                          have D6 := (Chg.refl (fun k => k = wr.heap.size) _).grown g6 (fun j hj => .inl (by simp [Value.ownBlock] at hj; omega))
                          refine hK _ _ (HSS.out _ C6) ?_
                          clear hK K
                          rw [Nat.zero_add, List.nil_append] at o6
                          have A6 : Own w8 (fun k => wr.heap.size ≤ k) 9 1 v6 line.length (line.map Value.string) := o6.mono fun k hk => by simp [Value.ownBlock] at hk; omega
                          clear o6 g6 L6 q1 q2 q3
                          replace A2 := A2.chg D6 (fun k hk e => by omega)
                          refine wpAll_cons [11] (by kernel_rfl) ?_
                          intro i hi
                          simp only [List.mem_cons, List.not_mem_nil, or_false] at hi
                          subst hi
                          refine ⟨_, rfl, rfl, fun K hK => ?_⟩
                          have q1 : ∀ u ∈ [Value.string bs], u.oneCell' = true := by simp [Value.oneCell']
                          have q2 : line.length + 1 ≤ maxLen := by have := HLW.out; unfold maxLen; omega
                          have q3 : (line.length + 1) * 16 ≤ 140737488355328 := by have := HLW.out; omega
                          refine opwp_app (v := v6) _ _ 42 rfl i0 _ 16 Try.underlying42 HIS.out.1 HIS.out.2.1 HIS.out.2.2.1 HIS.out.2.2.2 rfl rfl A6 _ 1 _ rfl A2 q1 q2 q3 ?_
                          intro v9 w9 o9 g9 _
                          simp only [Act.put, List.setIfInBounds_toArray, List.set_cons_zero, List.set_cons_succ]
                          have hob := A6.ownBlock
                          have C9 := C6.grown g9 (fun j hj => .inr (hob j hj).1)
                          refine hK _ _ (HSS.out _ C9) ?_
                          clear hK K
                          have hzc := C6.size
                          have A9 : Own w9 (fun k => wr.heap.size ≤ k) 9 1 v9 (line.length + 1) ((line ++ [bs]).map Value.string) := by
                            rw [List.map_append, List.map_cons, List.map_nil]
                            exact o9.mono fun k hk => hk.elim (fun h => (hob k h).1) (fun h => by rw [h]; exact hzc)
                          clear o9 g9 q1 q2 q3 hob hzc A6 A2
                          refine wpAll_nil ?_
                          obtain ⟨p9, c9, rfl⟩ := A9.form
                          have C9' := ((Chg.refl NoB wr).drew).step C9
                          have B9 := C9'.blk0 HBL.out
                          have z3 := B9.cell' (i := 3) (v := .slice p3 line.length c3) (by rfl)
                          have zf := B9.frozen 3
                          have HA9 := Lib.hid A9
                          have HC9 := Lib.hid C9'
                          clear A9 C9 C9' B9 C0
                          go_wp2_with fail
                          go_meet
                          have hz9 := HC9.out.size
                          have hc0 : ¬ S' c0 := fun e => (HSH.out c0 e).2 hcS
                          have E9 := (Chg.refl (fun k => k = c0) w9).setCell (a := ⟨c0, 3, none⟩) (.inl rfl) (.slice p9 (line.length + 1) c9)
                          have hz5' := HC5.out.size
                          have hcr := HRH.out c0 hcS
                          refine ⟨off ++ [bs], c, fl, line ++ [bs], next, nv, S6, fun q => R' q ∨ wr.heap.size ≤ q, rfl, hn0, by omega, by simp; omega, ((HG6.out.chg HCX.out fun q hq e => ?_).chg0 HC9.out).chg E9 fun q hq e => ?_, RefS.offered hcS HBL.out HFF.out (fun q hq => by have := HRH.out q hq; omega) HC9.out HA9.out, fun q h => ⟨?_, fun e => ?_⟩, fun q h => h.elim (fun h => (HRH.out q h).1) (fun h => by omega), HFL.out.offer bs, hflW, ?_, ((HC6.out.trans HCX.out fun q hq e => ?_).step HC9.out).trans E9 fun q hq e => ?_⟩
                          · rcases (HS6.out q hq).1 with h | h
                            · have := (HSH.out q h).1; have := HSO.out q e; omega
                            · have := HSO.out q e; omega
                          · rcases (HS6.out q hq).1 with h | h
                            · rw [e] at h; exact hc0 h
                            · omega
                          · rcases (HS6.out q h).1 with h | h
                            · exact (HSH.out q h).1.1
                            · omega
                          · have hq6 := (HS6.out q h).2
                            rcases (HS6.out q h).1 with h | h
                            · exact e.elim (HSH.out q h).2 (fun e => by have := (HSH.out q h).1; omega)
                            · exact e.elim (fun e => by have := HRH.out q e; omega) (fun e => by omega)
                          · intro s hs
                            rcases List.mem_append.1 hs with hs | hs
                            · exact HOF.out s hs
                            · rw [List.mem_singleton.1 hs]; have := of_decide_eq_true dle; omega
                          · have := HSO.out q e; omega
                          · omega
                      ·
                        refine ⟨_, rfl, rfl, fun K hK => ?_⟩
                        go_simp
                        refine hK _ _ (HSS.out _ (C0.alloc _)) ?_
                        clear hK K
                        have C2 := C0.alloc (.cells #[.string bs] 9)
                        have A2 : Sl (World.alloc wr.drew (.cells #[.string bs] 9)) (fun k => k = wr.heap.size) 1 (.slice (some ⟨wr.heap.size, 0, none⟩) 1 1) 1 [.string bs] := by simpa using (Own.fresh wr.drew [.string bs] 9 1 rfl (by unfold maxLen; omega)).sl
                        refine wpAll_cons [1] (by kernel_rfl) ?_
                        intro i hi
                        simp only [List.mem_cons, List.not_mem_nil, or_false] at hi
                        subst hi
                        refine ⟨_, rfl, rfl, fun K hK => ?_⟩
                        go_simp
                        refine hK _ _ (HSS.out _ (C2.alloc _)) ?_
                        clear hK K
                        have C1 := C2.alloc (.cells #[] 9)
                        have A1 : Own (World.alloc (wr.drew.alloc (.cells #[.string bs] 9)) (.cells #[] 9)) (fun k => k = (wr.heap.size + 1)) 9 1 (.slice (some ⟨(wr.heap.size + 1), 0, none⟩) 0 0) 0 [] := by simpa using Own.fresh (wr.drew.alloc (.cells #[.string bs] 9)) [] 9 0 rfl (by unfold maxLen; omega)
                        replace A2 := A2.chg0 ((Chg.refl NoB (wr.drew.alloc (.cells #[.string bs] 9))).alloc (.cells #[] 9))
                        refine wpAll_cons [6] (by kernel_rfl) ?_
                        intro i hi
                        simp only [List.mem_cons, List.not_mem_nil, or_false] at hi
                        subst hi
                        refine ⟨_, rfl, rfl, fun K hK => ?_⟩
                        have L6 := (HLL.out.chg0 ((Chg.refl NoB wr).drew)).chg0 C1
                        have q1 : ∀ u ∈ line.map Value.string, u.oneCell' = true := by simp [Value.oneCell']
                        have q2 : 0 + line.length ≤ maxLen := by have := HLW.out; unfold maxLen; omega
                        have q3 : (0 + line.length) * 16 ≤ 140737488355328 := by have := HLW.out; omega
                        refine opwp_app (v := .slice (some ⟨(wr.heap.size + 1), 0, none⟩) 0 0) _ _ 42 rfl i0 _ 16 Try.underlying42 HIS.out.1 HIS.out.2.1 HIS.out.2.2.1 HIS.out.2.2.2 rfl rfl A1 _ line.length _ rfl L6 q1 q2 q3 ?_
                        intro v6 w8 o6 g6 _
                        simp only [Act.put, List.setIfInBounds_toArray, List.set_cons_zero, List.set_cons_succ]
                        have C6 := C1.grown g6 (fun j hj => .inr (by simp [Value.ownBlock] at hj ⊢; omega))
                        have D6 := (Chg.refl (fun k => k = (wr.heap.size + 1)) _).grown g6 (fun j hj => .inl (by simp [Value.ownBlock] at hj; omega))
                        refine hK _ _ (HSS.out _ C6) ?_
                        clear hK K
                        rw [Nat.zero_add, List.nil_append] at o6
                        have A6 : Own w8 (fun k => wr.heap.size ≤ k) 9 1 v6 line.length (line.map Value.string) := o6.mono fun k hk => by simp [Value.ownBlock] at hk; omega
                        clear o6 g6 L6 q1 q2 q3
                        replace A2 := A2.chg D6 (fun k hk e => by omega)
                        refine wpAll_cons [11] (by kernel_rfl) ?_
                        intro i hi
                        simp only [List.mem_cons, List.not_mem_nil, or_false] at hi
                        subst hi
                        refine ⟨_, rfl, rfl, fun K hK => ?_⟩
                        have q1 : ∀ u ∈ [Value.string bs], u.oneCell' = true := by simp [Value.oneCell']
                        have q2 : line.length + 1 ≤ maxLen := by have := HLW.out; unfold maxLen; omega
                        have q3 : (line.length + 1) * 16 ≤ 140737488355328 := by have := HLW.out; omega
                        refine opwp_app (v := v6) _ _ 42 rfl i0 _ 16 Try.underlying42 HIS.out.1 HIS.out.2.1 HIS.out.2.2.1 HIS.out.2.2.2 rfl rfl A6 _ 1 _ rfl A2 q1 q2 q3 ?_
                        intro v9 w9 o9 g9 _
                        simp only [Act.put, List.setIfInBounds_toArray, List.set_cons_zero, List.set_cons_succ]
                        have hob := A6.ownBlock
                        have C9 := C6.grown g9 (fun j hj => .inr (hob j hj).1)
                        refine hK _ _ (HSS.out _ C9) ?_
                        clear hK K
                        have hzc := C6.size
                        have A9 : Own w9 (fun k => wr.heap.size ≤ k) 9 1 v9 (line.length + 1) ((line ++ [bs]).map Value.string) := by
                          rw [List.map_append, List.map_cons, List.map_nil]
                          exact o9.mono fun k hk => hk.elim (fun h => (hob k h).1) (fun h => by rw [h]; exact hzc)
                        clear o9 g9 q1 q2 q3 hob hzc A6 A2
                        refine wpAll_nil ?_
                        obtain ⟨p9, c9, rfl⟩ := A9.form
                        have C9' := ((Chg.refl NoB wr).drew).step C9
                        have B9 := C9'.blk0 HBL.out
                        have z3 := B9.cell' (i := 3) (v := .slice p3 line.length c3) (by rfl)
                        have zf := B9.frozen 3
                        have HA9 := Lib.hid A9
                        have HC9 := Lib.hid C9'
                        clear A9 C9 C9' B9 C0
                        go_wp2_with fail
                        go_meet
                        have hz9 := HC9.out.size
                        have hc0 : ¬ S' c0 := fun e => (HSH.out c0 e).2 hcS
                        have E9 := (Chg.refl (fun k => k = c0) w9).setCell (a := ⟨c0, 3, none⟩) (.inl rfl) (.slice p9 (line.length + 1) c9)
                        have hz5' := HC5.out.size
                        have hcr := HRH.out c0 hcS
                        refine ⟨off ++ [bs], c, fl, line ++ [bs], next, nv, S6, fun q => R' q ∨ wr.heap.size ≤ q, rfl, hn0, by omega, by simp; omega, ((HG6.out.chg HCX.out fun q hq e => ?_).chg0 HC9.out).chg E9 fun q hq e => ?_, RefS.offered hcS HBL.out HFF.out (fun q hq => by have := HRH.out q hq; omega) HC9.out HA9.out, fun q h => ⟨?_, fun e => ?_⟩, fun q h => h.elim (fun h => (HRH.out q h).1) (fun h => by omega), HFL.out.offer bs, hflW, ?_, ((HC6.out.trans HCX.out fun q hq e => ?_).step HC9.out).trans E9 fun q hq e => ?_⟩
                        · rcases (HS6.out q hq).1 with h | h
                          · have := (HSH.out q h).1; have := HSO.out q e; omega
                          · have := HSO.out q e; omega
                        · rcases (HS6.out q hq).1 with h | h
                          · rw [e] at h; exact hc0 h
                          · omega
                        · rcases (HS6.out q h).1 with h | h
                          · exact (HSH.out q h).1.1
                          · omega
                        · have hq6 := (HS6.out q h).2
                          rcases (HS6.out q h).1 with h | h
                          · exact e.elim (HSH.out q h).2 (fun e => by have := (HSH.out q h).1; omega)
                          · exact e.elim (fun e => by have := HRH.out q e; omega) (fun e => by omega)
                        · intro s hs
                          rcases List.mem_append.1 hs with hs | hs
                          · exact HOF.out s hs
                          · rw [List.mem_singleton.1 hs]; have := of_decide_eq_true dle; omega
                        · have := HSO.out q e; omega
                        · omega
              · have d0 : ((u : Int) % 4 == 0) = false := by simp; omega
                by_cases hr2 : u % 4 = 2
                · as_aux_lemma =>
                  have d2 : ((u : Int) % 4 == 1) = false := by simp; omega
                  have d3 : ((u : Int) % 4 == 3) = false := by simp; omega
                  clear hr0 hr2
                  obtain ⟨d, hd, hF2, hd2⟩ := HFL.out.acked ack
                  obtain ⟨fl2, hfl2⟩ : ∃ fl2, ackF ack next fl = fl2 := ⟨_, rfl⟩
                  rw [hfl2] at hd hF2 hd2
                  have HFL2 := Lib.hid hfl2
                  have HF2 := Lib.hid hF2
                  have hll := HFL.out.lineLen
                  clear hfl2 hF2 hd
                  go_wp2_with fail
                  have G1 := HGa.out.chg0 (Chg.refl NoB wa).drew
                  refine wp_region_take 8 [0, 1, 2, 4, 5, 6] [3, 7] (fun w' => w'.cell? ⟨wr.heap.size, 2, none⟩ = some (.int .u64 ack)) (by kernel_rfl) (by kernel_rfl) (fun _ _ _ _ _ h => h) (x2) ?_
                  simp only [pickOps_nil, pickOps_cons, Option.getD_some, List.getElem?_toArray, List.getElem?_cons_zero, List.getElem?_cons_succ, List.cons_append, List.nil_append, List.drop_succ_cons, List.drop_zero]
                  repeat
                    refine wpTake_cons' rfl ?_
                    apply Exists.intro
                    refine ⟨fun wS hS => ?_, ?_⟩
                    · try dsimp only at hS
                      obtain k2 := hS
                      go_simp
                      try rfl
                    simp only [Act.put, List.setIfInBounds_toArray, List.set_cons_zero, List.set_cons_succ]
                  refine wpTake_nil ?_
                  refine wpForce_cons rfl (fun K hK => ?_)
                  go_simp
                  refine (ackedAt G1 (by omega) ack fl2 HFL2.out).mono ?_
                  rintro e w3 ⟨rfl, G3, C3'⟩
                  have C3 := C3'.undrew
                  have hz3 := C3.size
                  have hne : ¬ S' wr.heap.size := fun e => by have := (HSH.out _ e).1; omega
                  have y2 := C3.cell x2 hne
                  refine hK _ _ y2 ?_
                  have R3 := HRa.out.chg C3 fun q hq e => (HSH.out q e).2 hq
                  refine wpForce_cons rfl (fun K2 hK2 => ?_)
                  go_simp
                  refine (rackedAt R3 (by omega) ack fl2 HFL2.out).mono ?_
                  rintro e w4 ⟨rfl, R4, C4⟩
                  have hne2 : ¬ R' wr.heap.size := fun e => by have := HRH.out _ e; omega
                  refine hK2 _ _ (C4.cell y2 hne2) ?_
                  refine wpForce_nil ?_
                  have G4 := G3.chg C4 fun q hq => (HSH.out q hq).2
                  have HG4 := Lib.hid G4
                  have HR4 := Lib.hid R4
                  have HC4 := Lib.hid ((HCa.out.trans C3 fun q hq e => by have := (HSH.out q e).1; omega).trans C4 fun q hq e => by have := HRH.out q e; omega)
                  clear hK hK2 K K2 x0 x1 x2 x3 y2 G1 G3 G4 R3 R4 C3 C3' C4
                  go_wp2_with fail
                  go_meet
                  refine ⟨off, c + d, fl2, line, next, nv, S', fun q => R' q ∨ w3.heap.size ≤ q, rfl, hn0, by omega, by omega, HG4.out, HR4.out, fun q h => ⟨(HSH.out q h).1.1, fun e => e.elim (HSH.out q h).2 (fun e => by have := (HSH.out q h).1; omega)⟩, fun q h => h.elim (fun h => (HRH.out q h).1) (fun h => by omega), HF2.out, by omega, HOF.out, HC4.out⟩
                · by_cases hr1 : u % 4 = 1
                  · as_aux_lemma =>
                    have d2 : ((u : Int) % 4 == 1) = true := by simp; omega
                    clear hr0 hr2 hr1
                    obtain ⟨t0, ht0⟩ : ∃ t0, nv + (vi : Int) % 20 = t0 := ⟨_, rfl⟩
                    have HT0 := Lib.hid ht0
                    have hvb1 : ((vi : Int) % 20) ≤ 19 := by omega
                    have hvb0 : 0 ≤ (vi : Int) % 20 := by omega
                    have ht1 : 0 ≤ t0 ∧ t0 ≤ 20 * (k + 1) := by omega
                    clear ht0
                    -- Out on both, then the items' bytes are written over
                    obtain ⟨t, ht⟩ : ∃ t, clampT t0 = t := ⟨_, rfl⟩
                    obtain ⟨hFa, hgo⟩ := HFL.out.again (longest := lo) t (by have := HR.out; unfold RightS at this; omega)
                    obtain ⟨⟨o2, l2, f2, n2⟩, hres⟩ : ∃ x, fillF W wt t line (fl.map (agF t lo)) next = x := ⟨_, rfl⟩
                    have hfi := Flow.fill (window := W) (t := t) (wait := wt) (by have := HR.out; unfold RightS at this; omega) line _ next hFa (by rw [List.length_map]; exact hflW)
                    rw [hres] at hfi
                    obtain ⟨hF2, hfw2, hgo2⟩ := hfi
                    have hll := HFL.out.lineLen
                    have hRi := HR.out
                    have hW64 : W ≤ 64 := hRi.2.1
                    have HRES := Lib.hid hres
                    have HF2 := Lib.hid hF2
                    have HT := Lib.hid ht
                    clear hFa hgo hres hF2 hgo2 ht hRi
                    go_wp2_with fail
                    try rw [HT0.out]
                    refine (outStep HGa.out (t0) t HT.out (HFL.out.flOk HOF.out) (HFL.out.lineOk HOF.out) HR.out (by omega) (by omega) (by have := HFL.out.hnext; omega) o2 l2 f2 n2 HRES.out).mono ?_
                    rintro e w3 ⟨q3, rfl, S3', X3, G3', O3', HX3', HS3', C3⟩
                    obtain ⟨S3, G3, hs3, hs4⟩ : ∃ S3 : Nat → Prop, SendAt S3 w3 b W wt lo l2 f2 n2 ∧ (∀ q, S3 q → S3' q) ∧ ∀ q, S3 q → q < w3.heap.size := ⟨_, G3'.bound (S' := fun q => S3' q ∧ q < w3.heap.size) fun q a b => ⟨b, a⟩, fun q h => h.1, fun q h => h.2⟩
                    have HX3 : ∀ q, X3 q → ¬ S3 q ∧ wa.heap.size ≤ q := fun q h => ⟨fun e => (HX3' q h).1 (hs3 q e), (HX3' q h).2⟩
                    have HS3 : ∀ q, S3 q → S' q ∨ wa.heap.size ≤ q := fun q h => HS3' q (hs3 q h)
                    have HS3L := Lib.hid hs4
                    clear G3' HX3' HS3' hs3 hs4
                    have O3 : OutAt w3 (fun q => X3 q ∧ q < w3.heap.size) q3 (agOut t fl ++ o2) := O3'.bound fun q a b => ⟨b, a⟩
                    have R3 := HRa.out.chg C3 fun q hq e => (HSH.out q e).2 hq
                    have hz3 := C3.size
                    have HG3 := Lib.hid G3
                    have HO3 := Lib.hid O3
                    have HR3 := Lib.hid R3
                    have HC3 := Lib.hid (HCa.out.trans C3 fun q hq e => by have := (HSH.out q e).1; omega)
                    have HX := Lib.hid HX3
                    have HS := Lib.hid HS3
                    clear x0 x1 x2 x3 G3 O3 O3' R3 HX3 HS3 C3
                    go_wp2_with fail
                    try rw [HT0.out]
                    refine (routAt HR3.out (t0) t HT.out (HFL.out.flOk HOF.out) HR.out (by omega) (by omega) (by have := HFL.out.hnext; omega) o2 l2 f2 n2 HRES.out).mono ?_
                    rintro e w4 ⟨q4, rfl, ob, R4, hsl, hmap, C4⟩
                    have hz4 := C4.size
                    have O4 := HO3.out.chg C4 fun q hq e => by have := (HX.out q hq.1).2; have := HRH.out q e; omega
                    have G4 := HG3.out.chg C4 fun q hq e => (HS.out q hq).elim (fun h => (HSH.out q h).2 e) (fun h => by have := HRH.out q e; omega)
                    have hol : (agOut t fl ++ o2).length ≤ 100000 := by
                      have h1 : (agOut t fl).length ≤ fl.length := by unfold agOut; rw [List.length_map]; exact List.length_filter_le _ _
                      have h2 := fillF_len W wt t line (fl.map (agF t lo)) next
                      rw [HRES.out] at h2
                      simp only at h2
                      rw [List.length_append]; omega
                    generalize hou : agOut t fl ++ o2 = outs at *
                    have HG4 := Lib.hid G4
                    have HR4 := Lib.hid R4
                    have HC4 := Lib.hid (HC3.out.trans C4 fun q hq e => by have := HRH.out q e; omega)
                    have HO4 := Lib.hid O4
                    have HSL := Lib.hid hsl
                    have HMAP := Lib.hid hmap
                    clear G4 R4 C4 O4 hsl hmap hou HO3 HG3 HR3 HC3
                    go_wp2_with fail
                    refine (sameAt q3 q4 outs ob HO4.out HSL.out HMAP.out hol).mono ?_
                    rintro e w5 ⟨rfl, C5⟩
                    have hz5 := C5.size
                    obtain ⟨S1, S2, vs, d1, d2, hOo, hOr⟩ := HO4.out.chg0 C5
                    obtain ⟨pq, cq, rfl⟩ := hOo.form
                    have HG5 := Lib.hid (HG4.out.chg0 C5)
                    have HR5 := Lib.hid (HR4.out.chg0 C5)
                    have HC5 := Lib.hid (HC4.out.then0 C5)
                    have D1 := Lib.hid d1
                    have D2 := Lib.hid d2
                    have HOO := Lib.hid hOo
                    have HOR := Lib.hid hOr
                    have hby : ∀ (i : Nat) (r : Int × ByteArray) (v : Value), outs[i]? = some r → vs[i]? = some v → Bytes w5 S2 v r.2.size := fun i r v h1 h2 => by
                      obtain ⟨v', h3, h4⟩ := hOr.2 i r.2 (by simp [h1])
                      rw [h2] at h3
                      cases h3
                      exact Bytes.of h4
                    clear C5 hOo hOr d1 d2 HG4 HR4 HC4 HO4 HSL HMAP
                    go_wp2_with fail
                    go_loopg [203] outs.length (fun m ix wx => ∃ j : Nat, j + m = outs.length ∧ ix = .int .i64 j ∧ Chg S2 w5 wx ∧ ∀ (i : Nat) (r : Int × ByteArray) (v : Value), outs[i]? = some r → vs[i]? = some v → Bytes wx S2 v r.2.size)
                    case atStart => exact ⟨0, by omega, rfl, Chg.refl _ _, hby⟩
                    case round =>
                      obtain ⟨j, hj, rfl, hCx, hBx⟩ := hrel
                      have HJ := Lib.hid hj
                      have hjl : j ≤ outs.length := by omega
                      clear hj
                      by_cases hltj : j < outs.length
                      · obtain ⟨⟨seq, s⟩, hp⟩ : ∃ r, outs[j]? = some r := ⟨outs[j], by simp [hltj]⟩
                        obtain ⟨v, hv, hvs⟩ := HOR.out.2 j s (by simp [hp])
                        obtain ⟨gq, oq, cq', e, hgS, hgq, -, hqc, -⟩ := HOO.out.spot (by omega)
                        cases e
                        obtain ⟨a0, a1⟩ := icells_at _ _ j _ _ hp hv
                        have k0 := hCx.cell (hqc _ _ a0) (D1.out _ hgS).2
                        have k1 := hCx.cell (hqc _ _ a1) (D1.out _ hgS).2
                        rw [← Nat.add_assoc] at k1
                        have hb := hBx j _ _ hp hv
                        obtain ⟨pv, cv, rfl⟩ := hb.form
                        have hsm := hb.le
                        unfold maxLen at hsm
                        simp only at hsm
                        have HBX := Lib.hid hBx
                        have HCX := Lib.hid hCx
                        have HP' := Lib.hid hp
                        have HV' := Lib.hid hv
                        have j0 : (0 : Int) ≤ j := by omega
                        have j1 : (j : Int) < outs.length := by omega
                        have hgw : gq < wr.heap.size := Nat.lt_of_lt_of_le hgq hCx.size
                        have hzx := hCx.size
                        have E1 := ((Chg.refl NoB wr).alloc (.cells #[.int .u64 seq, .slice pv s.size cv] 100))
                        have BI := Blk.new wr #[.int .u64 seq, .slice pv s.size cv] 100
                        clear hp hv hvs hqc a0 a1 hb hBx hCx
                        simp only at k0 k1
                        go_upto_region 39 with fail
                        have hEl := E1.size
                        have hbl := BI.lt
                        have hBy : ∀ (i : Nat) (r : Int × ByteArray) (v : Value), outs[i]? = some r → vs[i]? = some v → Bytes (wr.alloc (.cells #[.int .u64 seq, .slice pv s.size cv] 100)) S2 v r.2.size := fun i r v h1 h2 => (HBX.out i r v h1 h2).chg0 E1
                        have HCy := Lib.hid (HCX.out.then0 E1)
                        have y1 := BI.cell' (i := 1) (v := .slice pv s.size cv) (by rfl)
                        generalize hwy : wr.alloc (.cells #[.int .u64 seq, .slice pv s.size cv] 100) = wy at *
                        obtain ⟨bi, hbi⟩ : ∃ bi, wr.heap.size = bi := ⟨_, rfl⟩
                        have HBI := Lib.hid hbi
                        rw [hbi] at y1 BI hbl
                        clear hwy k0 k1 E1 hbi
                        rw [HBI.out]
                        go_wp2_with fail
                        go_loopg [210] s.size (fun m ix wx => ∃ i : Nat, i + m = s.size ∧ ix = .int .i64 i ∧ Chg S2 w5 wx ∧ Blk wx bi #[.int .u64 seq, .slice pv s.size cv] 100 ∧ ∀ (i : Nat) (r : Int × ByteArray) (v : Value), outs[i]? = some r → vs[i]? = some v → Bytes wx S2 v r.2.size)
                        case atStart => exact ⟨0, by omega, rfl, HCy.out, BI, hBy⟩
                        case round =>
                          obtain ⟨i, hi, rfl, hCz, hBz, hYz⟩ := hrel
                          have HI := Lib.hid hi
                          have hil : i ≤ s.size := by omega
                          clear hi
                          have hz1 := hBz.cell' (i := 1) (v := .slice pv s.size cv) (by rfl)
                          by_cases hlti : i < s.size
                          · obtain ⟨g, of, x, rfl, hgS2, hgl, hgc, hgf, hnc⟩ := (hYz j _ _ HP'.out HV'.out).spot hlti
                            have i0 : (0 : Int) ≤ i := by omega
                            have i1 : (i : Int) < s.size := by omega
                            have hgb : g ≠ bi := fun e => by have := (D2.out g hgS2).2; have := HBI.out; omega
                            have HCZ := Lib.hid hCz
                            have HBZ := Lib.hid hBz
                            have HYZ := Lib.hid hYz
                            clear hCz hBz hYz
                            try simp only at hnc hgc hgf
                            go_wp2_with fail
                            go_roundg (s.size - (i + 1))
                            case measure => have := HI.out; omega
                            case rel => exact ⟨i + 1, by have := HI.out; omega, by go_num, HCZ.out.setCell (.inl hgS2) _, HBZ.out.set_ne (Ne.symm hgb) _, fun i r v h1 h2 => (HYZ.out i r v h1 h2).put _ _ _⟩
                          · obtain rfl : i = s.size := by have := HI.out; omega
                            have HCZ := Lib.hid hCz
                            have HYZ := Lib.hid hYz
                            clear hCz hBz hYz
                            go_wp2_with fail
                            go_roundg (outs.length - (j + 1))
                            case measure => have := HJ.out; omega
                            case rel => exact ⟨j + 1, by have := HJ.out; omega, by go_num, HCZ.out, HYZ.out⟩
                      · obtain rfl : j = outs.length := by have := HJ.out; omega
                        go_wp2_with fail
                        go_meet
                        refine ⟨off, c, f2, l2, n2, t0, S3, Grow R' w3, rfl, by omega, by omega, by omega, HG5.out.chg hCx ?_, HR5.out.chg hCx ?_, ?_, ?_, HF2.out, hfw2, HOF.out, HC5.out.trans hCx ?_⟩
                        · intro q hq e
                          exact (HX.out q (D2.out q e).1).1 hq
                        · intro q hq e
                          have e1 := D2.out q e
                          have e2 := (HX.out q e1.1).2
                          rcases hq with h | h
                          · have := HRH.out q h; omega
                          · omega
                        · intro q hq
                          rcases HS.out q hq with h | h
                          · exact ⟨(HSH.out q h).1.1, fun e => e.elim (HSH.out q h).2 (fun e => by have := (HSH.out q h).1; omega)⟩
                          · have := HS3L.out q hq
                            exact ⟨by omega, fun e => e.elim (fun e => by have := HRH.out q e; omega) (fun e => by omega)⟩
                        · intro q hq
                          rcases hq with h | h
                          · exact (HRH.out q h).1
                          · omega
                        · intro q hq e
                          have e2 := (HX.out q (D2.out q e).1).2
                          omega
                  · as_aux_lemma =>
                    have d2 : ((u : Int) % 4 == 1) = false := by simp; omega
                    have d3 : ((u : Int) % 4 == 3) = true := by simp; omega
                    clear hr0 hr2 hr1
                    -- Out on both, then the items' bytes are written over
                    obtain ⟨t, ht⟩ : ∃ t, clampT oi = t := ⟨_, rfl⟩
                    obtain ⟨hFa, hgo⟩ := HFL.out.again (longest := lo) t (by have := HR.out; unfold RightS at this; omega)
                    obtain ⟨⟨o2, l2, f2, n2⟩, hres⟩ : ∃ x, fillF W wt t line (fl.map (agF t lo)) next = x := ⟨_, rfl⟩
                    have hfi := Flow.fill (window := W) (t := t) (wait := wt) (by have := HR.out; unfold RightS at this; omega) line _ next hFa (by rw [List.length_map]; exact hflW)
                    rw [hres] at hfi
                    obtain ⟨hF2, hfw2, hgo2⟩ := hfi
                    have hll := HFL.out.lineLen
                    have hRi := HR.out
                    have hW64 : W ≤ 64 := hRi.2.1
                    have HRES := Lib.hid hres
                    have HF2 := Lib.hid hF2
                    have HT := Lib.hid ht
                    clear hFa hgo hres hF2 hgo2 ht hRi
                    go_wp2_with fail
                    skip
                    refine (outStep HGa.out (oi) t HT.out (HFL.out.flOk HOF.out) (HFL.out.lineOk HOF.out) HR.out (by omega) (by omega) (by have := HFL.out.hnext; omega) o2 l2 f2 n2 HRES.out).mono ?_
                    rintro e w3 ⟨q3, rfl, S3', X3, G3', O3', HX3', HS3', C3⟩
                    obtain ⟨S3, G3, hs3, hs4⟩ : ∃ S3 : Nat → Prop, SendAt S3 w3 b W wt lo l2 f2 n2 ∧ (∀ q, S3 q → S3' q) ∧ ∀ q, S3 q → q < w3.heap.size := ⟨_, G3'.bound (S' := fun q => S3' q ∧ q < w3.heap.size) fun q a b => ⟨b, a⟩, fun q h => h.1, fun q h => h.2⟩
                    have HX3 : ∀ q, X3 q → ¬ S3 q ∧ wa.heap.size ≤ q := fun q h => ⟨fun e => (HX3' q h).1 (hs3 q e), (HX3' q h).2⟩
                    have HS3 : ∀ q, S3 q → S' q ∨ wa.heap.size ≤ q := fun q h => HS3' q (hs3 q h)
                    have HS3L := Lib.hid hs4
                    clear G3' HX3' HS3' hs3 hs4
                    have O3 : OutAt w3 (fun q => X3 q ∧ q < w3.heap.size) q3 (agOut t fl ++ o2) := O3'.bound fun q a b => ⟨b, a⟩
                    have R3 := HRa.out.chg C3 fun q hq e => (HSH.out q e).2 hq
                    have hz3 := C3.size
                    have HG3 := Lib.hid G3
                    have HO3 := Lib.hid O3
                    have HR3 := Lib.hid R3
                    have HC3 := Lib.hid (HCa.out.trans C3 fun q hq e => by have := (HSH.out q e).1; omega)
                    have HX := Lib.hid HX3
                    have HS := Lib.hid HS3
                    clear x0 x1 x2 x3 G3 O3 O3' R3 HX3 HS3 C3
                    go_wp2_with fail
                    skip
                    refine (routAt HR3.out (oi) t HT.out (HFL.out.flOk HOF.out) HR.out (by omega) (by omega) (by have := HFL.out.hnext; omega) o2 l2 f2 n2 HRES.out).mono ?_
                    rintro e w4 ⟨q4, rfl, ob, R4, hsl, hmap, C4⟩
                    have hz4 := C4.size
                    have O4 := HO3.out.chg C4 fun q hq e => by have := (HX.out q hq.1).2; have := HRH.out q e; omega
                    have G4 := HG3.out.chg C4 fun q hq e => (HS.out q hq).elim (fun h => (HSH.out q h).2 e) (fun h => by have := HRH.out q e; omega)
                    have hol : (agOut t fl ++ o2).length ≤ 100000 := by
                      have h1 : (agOut t fl).length ≤ fl.length := by unfold agOut; rw [List.length_map]; exact List.length_filter_le _ _
                      have h2 := fillF_len W wt t line (fl.map (agF t lo)) next
                      rw [HRES.out] at h2
                      simp only at h2
                      rw [List.length_append]; omega
                    generalize hou : agOut t fl ++ o2 = outs at *
                    have HG4 := Lib.hid G4
                    have HR4 := Lib.hid R4
                    have HC4 := Lib.hid (HC3.out.trans C4 fun q hq e => by have := HRH.out q e; omega)
                    have HO4 := Lib.hid O4
                    have HSL := Lib.hid hsl
                    have HMAP := Lib.hid hmap
                    clear G4 R4 C4 O4 hsl hmap hou HO3 HG3 HR3 HC3
                    go_wp2_with fail
                    refine (sameAt q3 q4 outs ob HO4.out HSL.out HMAP.out hol).mono ?_
                    rintro e w5 ⟨rfl, C5⟩
                    have hz5 := C5.size
                    obtain ⟨S1, S2, vs, d1, d2, hOo, hOr⟩ := HO4.out.chg0 C5
                    obtain ⟨pq, cq, rfl⟩ := hOo.form
                    have HG5 := Lib.hid (HG4.out.chg0 C5)
                    have HR5 := Lib.hid (HR4.out.chg0 C5)
                    have HC5 := Lib.hid (HC4.out.then0 C5)
                    have D1 := Lib.hid d1
                    have D2 := Lib.hid d2
                    have HOO := Lib.hid hOo
                    have HOR := Lib.hid hOr
                    have hby : ∀ (i : Nat) (r : Int × ByteArray) (v : Value), outs[i]? = some r → vs[i]? = some v → Bytes w5 S2 v r.2.size := fun i r v h1 h2 => by
                      obtain ⟨v', h3, h4⟩ := hOr.2 i r.2 (by simp [h1])
                      rw [h2] at h3
                      cases h3
                      exact Bytes.of h4
                    clear C5 hOo hOr d1 d2 HG4 HR4 HC4 HO4 HSL HMAP
                    go_wp2_with fail
                    go_loopg [203] outs.length (fun m ix wx => ∃ j : Nat, j + m = outs.length ∧ ix = .int .i64 j ∧ Chg S2 w5 wx ∧ ∀ (i : Nat) (r : Int × ByteArray) (v : Value), outs[i]? = some r → vs[i]? = some v → Bytes wx S2 v r.2.size)
                    case atStart => exact ⟨0, by omega, rfl, Chg.refl _ _, hby⟩
                    case round =>
                      obtain ⟨j, hj, rfl, hCx, hBx⟩ := hrel
                      have HJ := Lib.hid hj
                      have hjl : j ≤ outs.length := by omega
                      clear hj
                      by_cases hltj : j < outs.length
                      · obtain ⟨⟨seq, s⟩, hp⟩ : ∃ r, outs[j]? = some r := ⟨outs[j], by simp [hltj]⟩
                        obtain ⟨v, hv, hvs⟩ := HOR.out.2 j s (by simp [hp])
                        obtain ⟨gq, oq, cq', e, hgS, hgq, -, hqc, -⟩ := HOO.out.spot (by omega)
                        cases e
                        obtain ⟨a0, a1⟩ := icells_at _ _ j _ _ hp hv
                        have k0 := hCx.cell (hqc _ _ a0) (D1.out _ hgS).2
                        have k1 := hCx.cell (hqc _ _ a1) (D1.out _ hgS).2
                        rw [← Nat.add_assoc] at k1
                        have hb := hBx j _ _ hp hv
                        obtain ⟨pv, cv, rfl⟩ := hb.form
                        have hsm := hb.le
                        unfold maxLen at hsm
                        simp only at hsm
                        have HBX := Lib.hid hBx
                        have HCX := Lib.hid hCx
                        have HP' := Lib.hid hp
                        have HV' := Lib.hid hv
                        have j0 : (0 : Int) ≤ j := by omega
                        have j1 : (j : Int) < outs.length := by omega
                        have hgw : gq < wr.heap.size := Nat.lt_of_lt_of_le hgq hCx.size
                        have hzx := hCx.size
                        have E1 := ((Chg.refl NoB wr).alloc (.cells #[.int .u64 seq, .slice pv s.size cv] 100))
                        have BI := Blk.new wr #[.int .u64 seq, .slice pv s.size cv] 100
                        clear hp hv hvs hqc a0 a1 hb hBx hCx
                        simp only at k0 k1
                        go_upto_region 39 with fail
                        have hEl := E1.size
                        have hbl := BI.lt
                        have hBy : ∀ (i : Nat) (r : Int × ByteArray) (v : Value), outs[i]? = some r → vs[i]? = some v → Bytes (wr.alloc (.cells #[.int .u64 seq, .slice pv s.size cv] 100)) S2 v r.2.size := fun i r v h1 h2 => (HBX.out i r v h1 h2).chg0 E1
                        have HCy := Lib.hid (HCX.out.then0 E1)
                        have y1 := BI.cell' (i := 1) (v := .slice pv s.size cv) (by rfl)
                        generalize hwy : wr.alloc (.cells #[.int .u64 seq, .slice pv s.size cv] 100) = wy at *
                        obtain ⟨bi, hbi⟩ : ∃ bi, wr.heap.size = bi := ⟨_, rfl⟩
                        have HBI := Lib.hid hbi
                        rw [hbi] at y1 BI hbl
                        clear hwy k0 k1 E1 hbi
                        rw [HBI.out]
                        go_wp2_with fail
                        go_loopg [210] s.size (fun m ix wx => ∃ i : Nat, i + m = s.size ∧ ix = .int .i64 i ∧ Chg S2 w5 wx ∧ Blk wx bi #[.int .u64 seq, .slice pv s.size cv] 100 ∧ ∀ (i : Nat) (r : Int × ByteArray) (v : Value), outs[i]? = some r → vs[i]? = some v → Bytes wx S2 v r.2.size)
                        case atStart => exact ⟨0, by omega, rfl, HCy.out, BI, hBy⟩
                        case round =>
                          obtain ⟨i, hi, rfl, hCz, hBz, hYz⟩ := hrel
                          have HI := Lib.hid hi
                          have hil : i ≤ s.size := by omega
                          clear hi
                          have hz1 := hBz.cell' (i := 1) (v := .slice pv s.size cv) (by rfl)
                          by_cases hlti : i < s.size
                          · obtain ⟨g, of, x, rfl, hgS2, hgl, hgc, hgf, hnc⟩ := (hYz j _ _ HP'.out HV'.out).spot hlti
                            have i0 : (0 : Int) ≤ i := by omega
                            have i1 : (i : Int) < s.size := by omega
                            have hgb : g ≠ bi := fun e => by have := (D2.out g hgS2).2; have := HBI.out; omega
                            have HCZ := Lib.hid hCz
                            have HBZ := Lib.hid hBz
                            have HYZ := Lib.hid hYz
                            clear hCz hBz hYz
                            try simp only at hnc hgc hgf
                            go_wp2_with fail
                            go_roundg (s.size - (i + 1))
                            case measure => have := HI.out; omega
                            case rel => exact ⟨i + 1, by have := HI.out; omega, by go_num, HCZ.out.setCell (.inl hgS2) _, HBZ.out.set_ne (Ne.symm hgb) _, fun i r v h1 h2 => (HYZ.out i r v h1 h2).put _ _ _⟩
                          · obtain rfl : i = s.size := by have := HI.out; omega
                            have HCZ := Lib.hid hCz
                            have HYZ := Lib.hid hYz
                            clear hCz hBz hYz
                            go_wp2_with fail
                            go_roundg (outs.length - (j + 1))
                            case measure => have := HJ.out; omega
                            case rel => exact ⟨j + 1, by have := HJ.out; omega, by go_num, HCZ.out, HYZ.out⟩
                      · obtain rfl : j = outs.length := by have := HJ.out; omega
                        go_wp2_with fail
                        go_meet
                        refine ⟨off, c, f2, l2, n2, nv, S3, Grow R' w3, rfl, by omega, by omega, by omega, HG5.out.chg hCx ?_, HR5.out.chg hCx ?_, ?_, ?_, HF2.out, hfw2, HOF.out, HC5.out.trans hCx ?_⟩
                        · intro q hq e
                          exact (HX.out q (D2.out q e).1).1 hq
                        · intro q hq e
                          have e1 := D2.out q e
                          have e2 := (HX.out q e1.1).2
                          rcases hq with h | h
                          · have := HRH.out q h; omega
                          · omega
                        · intro q hq
                          rcases HS.out q hq with h | h
                          · exact ⟨(HSH.out q h).1.1, fun e => e.elim (HSH.out q h).2 (fun e => by have := (HSH.out q h).1; omega)⟩
                          · have := HS3L.out q hq
                            exact ⟨by omega, fun e => e.elim (fun e => by have := HRH.out q e; omega) (fun e => by omega)⟩
                        · intro q hq
                          rcases hq with h | h
                          · exact (HRH.out q h).1
                          · omega
                        · intro q hq e
                          have e2 := (HX.out q (D2.out q e).1).2
                          omega
            case rest =>
             as_aux_lemma =>
              obtain ⟨off2, c2, fl2, line2, next2, nv2, S2, R2, rfl, hn02, hn12, hol2, hG2, hR2, hSH2, hRH2, hF2, hfw2, hoff2, hC2⟩ := hcut
              have HG2 := Lib.hid hG2
              have HR2 := Lib.hid hR2
              obtain ⟨lv, fv, hcS, hB, hL, hF⟩ := hR2
              obtain ⟨p3, c3, rfl⟩ := hL.form
              obtain ⟨p4, c4, rfl⟩ := hF.form
              have HBR := Lib.hid hB
              have hll2 := hF2.lineLen
              obtain ⟨d, hd⟩ : ∃ d, dueR fl2 = d := ⟨_, rfl⟩
              have HD := Lib.hid hd
              have HF2 := Lib.hid hF2
              have HC2 := Lib.hid hC2
              have HOF2 := Lib.hid hoff2
              have HSH2 := Lib.hid hSH2
              have HRH2 := Lib.hid hRH2
              have hb2 : fl2.length ≤ 200 ∧ line2.length ≤ 200 := by omega
              obtain ⟨hb3, hb4⟩ := hb2
              clear hG2 hcS hB hL hF hd hF2 hC2 hoff2 hSH2 hRH2
              go_wp2_with fail
              refine (dueAt HG2.out (by omega) d HD.out).mono ?_
              rintro e w5 ⟨rfl, C5⟩
              have C5h := Lib.hid C5
              clear C5
              go_wp2_with fail
              refine (rdueAt (HR2.out.chg0 C5h.out) (by omega) d HD.out).mono ?_
              rintro e w6 ⟨rfl, C6⟩
              have C56 := C5h.out.step C6
              have G6 := HG2.out.chg0 C56
              have R6 := HR2.out.chg0 C56
              have B6 := C56.blk0 HBR.out
              have z3 := B6.cell' (i := 3) (v := .slice p3 line2.length c3) (by rfl)
              have z4 := B6.cell' (i := 4) (v := .slice p4 fl2.length c4) (by rfl)
              have z5 := B6.cell' (i := 5) (v := .int .u64 next2) (by rfl)
              have HG6 := Lib.hid G6
              have HR6 := Lib.hid R6
              have HC6 := Lib.hid (HC2.out.step C56)
              clear G6 R6 B6 C6 C56
              go_wp2_with fail
              go_quiet ((first | (go_at_call 57; exact quiet0 (lineAt (HG6.out.chg0 ((Chg.refl NoB _).drewN _)))) | (go_at_call 58; exact quiet0 (flightAt (HG6.out.chg0 ((Chg.refl NoB _).drewN _)))) | (go_at_call 59; exact quiet0 (nextAt (HG6.out.chg0 ((Chg.refl NoB _).drewN _))))))
              go_wp2_with fail
              go_roundg (ops.length - (k + 1))
              case measure => have := HK.out; omega
              case rel => exact ⟨k + 1, by have := HK.out; omega, by omega, by go_num, off2, c2, fl2, line2, next2, nv2, S2, R2, rfl, hn02, by omega, hol2, HG6.out.chg0 ((Chg.refl NoB _).drewN _), HR6.out.chg0 ((Chg.refl NoB _).drewN _), HSH2.out, HRH2.out, HF2.out, hfw2, HOF2.out, HC6.out.drewN _⟩
      · obtain rfl : k = ops.length := by omega
        go_wp2
        go_ret
        exact ⟨rfl, hC⟩
  · go_wp2_with fail
    refine (sendNewBad W wt lo w1 hr).mono ?_
    rintro e w2 ⟨rfl, rfl⟩
    go_wp2_with fail
    refine (rightAt W wt lo w1 false (by simp [hr])).mono ?_
    rintro e w2 ⟨rfl, rfl⟩
    go_wp2_with fail
    refine (dueNil w1).mono ?_
    rintro e w2 ⟨rfl, C2⟩
    go_wp2_with fail
    refine (offerNil (.slice none 0 0) none 0 0 w2).mono ?_
    rintro e w3 ⟨rfl, C3⟩
    go_wp2_with fail
    refine (outNil 1 w3).mono ?_
    rintro e w4 ⟨rfl, C4⟩
    go_wp2_with fail
    refine (ackedNil 1 w4).mono ?_
    rintro e w5 ⟨rfl, C5⟩
    go_wp2_with fail
    refine (lineNil w5).mono ?_
    rintro e w6 ⟨rfl, rfl⟩
    go_wp2_with fail
    refine (flightNil w5).mono ?_
    rintro e w6 ⟨rfl, rfl⟩
    go_wp2_with fail
    refine (nextNil w5).mono ?_
    rintro e w6 ⟨rfl, rfl⟩
    go_wp2_with fail
    go_ret
    exact ⟨rfl, (((HC1.out.step C2).step C3).step C4).step C5⟩
end Go.Proofs.Ytokigldggkkbcaa
