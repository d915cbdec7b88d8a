/- The sender: Out. -/
import Derived.Test.YtokigldggkkbcaaSend3
set_option linter.unusedVariables false
namespace Go.Proofs.Ytokigldggkkbcaa
open Go.RowKit Go.RR

def fillF (window wait now : Int) : List ByteArray → List Fl → Int → List (Int × ByteArray) × List ByteArray × List Fl × Int
  | [], fl, nx => ([], [], fl, nx)
  | b :: line, fl, nx => if (fl.length : Int) < window then ((nx, b) :: (fillF window wait now line (fl ++ [⟨nx, b, now + wait, wait⟩]) (nx + 1)).1, (fillF window wait now line (fl ++ [⟨nx, b, now + wait, wait⟩]) (nx + 1)).2) else ([], b :: line, fl, nx)
def clampT (now : Int) : Int := min (max now 0) 1099511627776
def LineOk (line : List ByteArray) : Prop := ∀ b ∈ line, b.size ≤ 4120

theorem FTinfo : (Try.prog.info? 133).map (fun i => (i.zero, i.size, i.bytes)) = some (some (.agg #[.int .u64 0, .slice none 0 0, .int .i64 0, .int .i64 0]), 4, 48) := by kernel_rfl

theorem Own.drop1 {w : World} {S : Nat → Prop} {E : TypeId} {g off cap n : Nat} {u : Value} {us : List Value} (h : Own w S E 1 (.slice (some ⟨g, off, none⟩) (n + 1) cap) (n + 1) (u :: us)) :
    Own w S E 1 (.slice (some ⟨g, if 1 = cap then off else off + 1, none⟩) n (cap - 1)) n us := by
  by_cases hc : 1 = cap
  · rw [if_pos hc]
    subst hc
    obtain ⟨hl, ⟨h0, -⟩ | ⟨g', off', cap', cur, e, h1, h2, h3, h4, h5, h6⟩⟩ := h
    · cases h0
    · cases e
      have hn : n = 0 := by omega
      subst hn
      have hus : us = [] := by simpa using hl
      subst hus
      exact ⟨by simp, .inr ⟨g, off, 0, cur, rfl, h1, h2, by omega, by omega, by omega, fun j u hu => by simp at hu⟩⟩
  · rw [if_neg hc]
    have := h.drop (k := 1) (by omega)
    simpa using this

set_option maxHeartbeats 8000000 in
set_option maxRecDepth 100000 in
theorem outAt {S : Nat → Prop} {w : World} {b : Nat} {window wait longest : Int} {line : List ByteArray} {fl : List Fl} {next : Int} (h : SendAt S w b window wait longest line fl next) (now t : Int) (ht : clampT now = t) (hfl : FlOk fl) (hlo : LineOk line) (hrt : RightS window wait longest) (hlen : fl.length ≤ 1000) (hlen2 : line.length ≤ 1000) (hnx : 0 ≤ next ∧ next ≤ 1000000)
    (o2 : List (Int × ByteArray)) (line2 : List ByteArray) (fl2 : List Fl) (next2 : Int) (hres : fillF window wait t line (fl.map (agF t longest)) next = (o2, line2, fl2, next2)) :
    Calls Try.prog 55 #[.pointer (some ⟨b, 0, none⟩), .int .i64 now] w (RetV fun q w' => ∃ T : Nat → Prop, SendAt (fun k => (S k ∧ k < w.heap.size) ∨ (w.heap.size ≤ k ∧ T k)) w' b window wait longest line2 fl2 next2 ∧ OutAt w' (fun k => w.heap.size ≤ k ∧ ¬ T k) q (agOut t fl ++ o2) ∧ Chg S w w') := by
  obtain ⟨i0, hi0, hz0, hz1, hz2⟩ := info_parts ITinfo
  obtain ⟨j0, hj0, hjz0, hjz1, hjz2⟩ := info_parts FTinfo
  have HRES := Lib.hid hres
  have HLO := Lib.hid hlo
  have hr' := hrt
  obtain ⟨w1', w2', w3', w4', w5', w6'⟩ := hr'
  have htb : 0 ≤ t ∧ t ≤ 1099511627776 := by unfold clampT at ht; omega
  have HT := Lib.hid ht
  have hH0 := h.bound (S' := fun k => S k ∧ k < w.heap.size) fun k a b => ⟨b, a⟩
  have HH0 := Lib.hid hH0
  have HFL := Lib.hid hfl
  obtain ⟨hnx0, hnx1⟩ := hnx
  obtain ⟨ht0, ht1⟩ := htb
  clear hres hlo ht h hH0 hfl
  go_enter Try.func55, Try.ntmps55
  go_upto_region 3 with fail
  go_cut [1] (fun s1 wx => s1 = .int .i64 t ∧ w = wx)
  case first =>
    have ht := HT.out
    unfold clampT at ht
    by_cases h1 : now < 0
    · have HE := Lib.hid (show (0 : Int) = t by omega)
      have d1 : decide (now < 0) = true := by simpa using h1
      clear ht
      go_wp2_with fail
      all_goals (go_meet; exact ⟨by rw [HE.out], rfl⟩)
    · by_cases h2 : 1099511627776 < now
      · have HE := Lib.hid (show (1099511627776 : Int) = t by omega)
        clear ht
        go_wp2_with fail
        all_goals (go_meet; exact ⟨by rw [HE.out], rfl⟩)
      · have HE := Lib.hid (show now = t by omega)
        clear ht
        go_wp2_with fail
        all_goals (go_meet; exact ⟨by rw [HE.out], rfl⟩)
  case rest =>
    obtain ⟨rfl, rfl⟩ := hcut
    go_wp2_with fail
    refine (againAt HH0.out t HFL.out (by omega) hlen (by omega)).mono ?_
    rintro e w1 ⟨q1, rfl, G1, O1, C1⟩
    have HG1 := Lib.hid G1
    have HO1 := Lib.hid O1
    have hz1' := C1.size
    have hml : (fl.map (agF t longest)).length = fl.length := by simp
    have HML := Lib.hid hml
    have hmo : FlOk (fl.map (agF t longest)) := by
      intro f hf
      obtain ⟨f0, h0, rfl⟩ := List.mem_map.1 hf
      obtain ⟨⟨a1, a2⟩, a3⟩ := HFL.out f0 h0
      refine ⟨?_, by rw [agF_b]; exact a3⟩
      unfold agF
      split
      · simp only; omega
      · exact ⟨a1, a2⟩
    have HMO := Lib.hid hmo
    clear G1 O1 hml hmo
    go_wp2_with fail
    go_loopg [5] line.length (fun m q wr => ∃ (ln : List ByteArray) (fs : List Fl) (nx : Int) (o1 o3 : List (Int × ByteArray)) (T : Nat → Prop), ln.length = m ∧ LineOk ln ∧ fs.length + m = fl.length + line.length ∧ nx + m = next + line.length ∧ o1.length + m = line.length ∧
      SendAt (fun k => (S k ∧ k < w.heap.size) ∨ (w.heap.size ≤ k ∧ T k)) wr b window wait longest ln fs nx ∧ OutAt wr (fun k => w.heap.size ≤ k ∧ ¬ T k) q (agOut t fl ++ o1) ∧ fillF window wait t ln fs nx = (o3, line2, fl2, next2) ∧ o2 = o1 ++ o3 ∧ Chg S w wr)
    case atStart =>
      refine ⟨line, fl.map (agF t longest), next, [], o2, NoB, rfl, HLO.out, by rw [HML.out], by omega, by simp, HG1.out.bound (fun k _ h => .inl h), ?_, HRES.out, rfl, C1.mono fun k _ h => h.1⟩
      rw [List.append_nil]
      exact HO1.out.bound fun k _ h => ⟨h, id⟩
    case round =>
      obtain ⟨ln, fs, nx, o1, o3, T, hlm, hlok, hfm, hnm, hom, hG, hO, hfill, ho2, hC⟩ := hrel
      have HLM := Lib.hid hlm
      have HLOK := Lib.hid hlok
      have HFM := Lib.hid hfm
      have HNM := Lib.hid hnm
      have HOM := Lib.hid hom
      have HFI := Lib.hid hfill
      have HO2 := Lib.hid ho2
      have HO := Lib.hid hO
      have hzr := hC.size
      obtain ⟨S1, S2, S3, lv, fv, ls, ds, b0, b1, b2, b3, hB, hL, hR, hF, hQ⟩ := hG.bound (S' := fun k => ((S k ∧ k < w.heap.size) ∨ (w.heap.size ≤ k ∧ T k)) ∧ k < wr.heap.size) fun k a b => ⟨b, a⟩
      obtain ⟨p1, c1, rfl⟩ := hL.form
      obtain ⟨p2, c2, rfl⟩ := hF.form
      have x0 : wr.cell? ⟨b, 0, none⟩ = some (.int .i64 window) := hB.cell' (i := 0) (by rfl)
      have x1 : wr.cell? ⟨b, 1, none⟩ = some (.int .i64 wait) := hB.cell' (i := 1) (by rfl)
      have x3 : wr.cell? ⟨b, 3, none⟩ = some (.slice p1 ln.length c1) := hB.cell' (i := 3) (by rfl)
      have x4 : wr.cell? ⟨b, 4, none⟩ = some (.slice p2 fs.length c2) := hB.cell' (i := 4) (by rfl)
      have x5 : wr.cell? ⟨b, 5, none⟩ = some (.int .u64 nx) := hB.cell' (i := 5) (by rfl)
      have xl := hB.lt
      have HB := Lib.hid hB
      have HL := Lib.hid hL
      have HR := Lib.hid hR
      have HF := Lib.hid hF
      have HQ := Lib.hid hQ
      have B1 := Lib.hid b1
      have B2 := Lib.hid b2
      have B3 := Lib.hid b3
      have HCR := Lib.hid hC
      clear hlm hlok hfm hnm hom hfill ho2 hO hG hB hL hR hF hQ b1 b2 b3 hC HG1 HO1
      by_cases hw : (fs.length : Int) < window
      · have d1 : decide ((fs.length : Int) < window) = true := by simpa using hw
        cases ln with
        | nil =>
          simp only [List.length_nil] at x3
          have d2 : decide ((0 : Int) < ((0 : Nat) : Int)) = false := by simp
          go_wp2_with fail
          go_quiet (fail)
          have CD := (Chg.refl NoB wr).drewN nq
          have HCD := Lib.hid CD
          clear CD
          go_wp2_with fail
          go_ret
          have hfi := HFI.out
          have hfe : (o3, line2, fl2, next2) = ([], ([] : List ByteArray), fs, nx) := by rw [← hfi]; first | rfl | (unfold fillF; rw [if_neg hw]) | (cases ([] : List ByteArray) <;> simp [fillF, hw])
          cases hfe
          have ho := HO2.out
          rw [List.append_nil] at ho
          subst ho
          exact ⟨_, rfl, T, (SendAt.bound ⟨S1, S2, S3, _, _, ls, ds, b0, B1.out, B2.out, B3.out, HCD.out.blk0 HB.out, HL.out.chg0 HCD.out, HR.out.chg0 HCD.out, HF.out.chg0 HCD.out, HQ.out.chg0 HCD.out⟩ fun k _ h => h.1), HO.out.chg0 HCD.out, HCR.out.then0 HCD.out⟩
        | cons s ln =>
          have d2 : decide ((0 : Int) < ((s :: ln).length : Int)) = true := by simp
          go_wp2_with fail
          go_quiet (fail)
          have CD := (Chg.refl NoB wr).drewN nq
          generalize hwd : wr.drewN nq = wd at *
          have hzd := CD.size
          have HBd := Lib.hid (CD.blk0 HB.out)
          have Ld := HL.out.chg0 CD
          have Rd' := HR.out.chg0 CD
          have HFd := Lib.hid (HF.out.chg0 CD)
          have HQd := Lib.hid (HQ.out.chg0 CD)
          have HOd := Lib.hid (HO.out.chg0 CD)
          have HCd := Lib.hid (HCR.out.then0 CD)
          obtain ⟨v, ls', rfl⟩ : ∃ v l, ls = v :: l := by
            cases ls with
            | nil => have := Rd'.1; simp [bodies] at this
            | cons v l => exact ⟨v, l, rfl⟩
          obtain ⟨v', e', hvs⟩ := Rd'.2 0 (byteCells s) rfl
          cases e'
          rw [byteCells_len] at hvs
          obtain ⟨pv, cv, rfl⟩ := hvs.form
          obtain ⟨gl, ol, cl', e, hgl, hgl2, hcl, hcell, -⟩ := Ld.spot (by simp)
          cases e
          have ys := hcell 0 _ rfl
          rw [Nat.add_zero] at ys
          have y1 := CD.cell x1 id
          have y3 := CD.cell x3 id
          have y5 := CD.cell x5 id
          have yl := HBd.out.lt
          have HLd := Lib.hid Ld
          have HRd := Lib.hid Rd'
          have HVS := Lib.hid hvs
          have hlpos : (0 : Int) < ((s :: ln).length : Int) := by simp
          have hlpos2 : (0 : Int) < (ln.length : Int) + 1 := by omega
          clear hcell hwd x0 x1 x3 x4 x5 xl Ld Rd' hvs HB HL HR HF HQ HO HCR CD
          simp only [List.length_cons] at y3 hcl
          go_upto_region 6 with fail
          refine wp_region_take 23 [0, 1, 2, 3, 4, 5, 6, 7, 8, 9, 10, 11, 12, 13, 14, 15, 16, 17, 18, 19, 20, 21] [22] (fun w' => w'.cell? ⟨b, 5, none⟩ = some (.int .u64 nx) ∧ w'.cell? ⟨b, 3, none⟩ = some (.slice (some ⟨gl, ol, none⟩) (ln.length + 1) c1) ∧ w'.cell? ⟨gl, ol, none⟩ = some (.slice pv s.size cv) ∧ w'.cell? ⟨b, 1, none⟩ = some (.int .i64 wait)) (by kernel_rfl) (by kernel_rfl) (fun _ _ _ _ _ h => h) (⟨y5, y3, ys, y1⟩) ?_
          simp only [pickOps_nil, pickOps_cons, Option.getD_some, List.getElem?_toArray, List.getElem?_cons_zero, List.getElem?_cons_succ, List.cons_append, List.nil_append, List.drop_succ_cons, List.drop_zero]
          repeat
            refine wpTake_cons' rfl ?_
            apply Exists.intro
            refine ⟨fun wS hS => ?_, ?_⟩
            · try dsimp only at hS
              obtain ⟨y5, y3, ys, y1⟩ := hS
              go_simp
              try rfl
            simp only [Act.put, List.setIfInBounds_toArray, List.set_cons_zero, List.set_cons_succ]
          refine wpTake_nil ?_
          refine wpForce_cons rfl (fun K hK => ?_)
          go_simp
          have C6 := ((Chg.refl NoB wd).alloc (.cells #[.int .u64 0, .slice none 0 0, .int .i64 0, .int .i64 0] 133)).drew
          have B6 : Blk (wd.alloc (.cells #[.int .u64 0, .slice none 0 0, .int .i64 0, .int .i64 0] 133)).drew wd.heap.size #[.int .u64 0, .slice none 0 0, .int .i64 0, .int .i64 0] 133 := Blk.new wd _ 133
          refine hK _ _ ⟨C6.cell y5 id, C6.cell y3 id, C6.cell ys id, C6.cell y1 id⟩ ?_
          refine wpForce_nil ?_
          have hz6 : (wd.alloc (.cells #[.int .u64 0, .slice none 0 0, .int .i64 0, .int .i64 0] 133)).drew.heap.size = wd.heap.size + 1 := by simp
          have HZ6 := Lib.hid hz6
          generalize hw6 : (wd.alloc (.cells #[.int .u64 0, .slice none 0 0, .int .i64 0, .int .i64 0] 133)).drew = w6 at *
          obtain ⟨bx, hbx⟩ : ∃ bx, wd.heap.size = bx := ⟨_, rfl⟩
          have HBX := Lib.hid hbx
          rw [hbx] at B6
          have z0 := B6.cell' (i := 0) (v := .int .u64 0) (by rfl)
          have z1 := B6.cell' (i := 1) (v := .slice none 0 0) (by rfl)
          have z2 := B6.cell' (i := 2) (v := .int .i64 0) (by rfl)
          have z3 := B6.cell' (i := 3) (v := .int .i64 0) (by rfl)
          have f0 := B6.frozen 0
          have f1 := B6.frozen 1
          have f2 := B6.frozen 2
          have f3 := B6.frozen 3
          have zl := B6.lt
          have B7 : Blk ((((w6.setCell ⟨bx, 0, none⟩ (.int .u64 nx)).setCell ⟨bx, 1, none⟩ (.slice pv s.size cv)).setCell ⟨bx, 2, none⟩ (.int .i64 (t + wait))).setCell ⟨bx, 3, none⟩ (.int .i64 wait)) bx #[.int .u64 nx, .slice pv s.size cv, .int .i64 (t + wait), .int .i64 wait] 133 := (((B6.set 0 _).set 1 _).set 2 _).set 3 _
          have C7 : Chg (· = bx) w6 ((((w6.setCell ⟨bx, 0, none⟩ (.int .u64 nx)).setCell ⟨bx, 1, none⟩ (.slice pv s.size cv)).setCell ⟨bx, 2, none⟩ (.int .i64 (t + wait))).setCell ⟨bx, 3, none⟩ (.int .i64 wait)) :=
            ((((Chg.refl (· = bx) w6).setCell (a := ⟨bx, 0, none⟩) (.inl rfl) _).setCell (a := ⟨bx, 1, none⟩) (.inl rfl) _).setCell (a := ⟨bx, 2, none⟩) (.inl rfl) _).setCell (a := ⟨bx, 3, none⟩) (.inl rfl) _
          have HB7 := Lib.hid B7
          have HC7 := Lib.hid C7
          clear hK K hw6 hbx B6 B7 C7 y1 y3 y5 ys yl hz6
          rw [HBX.out]
          go_upto_region 7 with fail
          generalize hw7 : (((w6.setCell ⟨bx, 0, none⟩ (.int .u64 nx)).setCell ⟨bx, 1, none⟩ (.slice pv s.size cv)).setCell ⟨bx, 2, none⟩ (.int .i64 (t + wait))).setCell ⟨bx, 3, none⟩ (.int .i64 wait) = w7 at *
          have C07 : Chg NoB wd w7 := ⟨HC7.out.os.trans C6.os, HC7.out.tape.trans C6.tape, HC7.out.output.trans C6.output, Nat.le_trans C6.size HC7.out.size, fun k hk hn => (HC7.out.block k (by have := HZ6.out; omega) (by have := HBX.out; omega)).trans (C6.block k hk hn)⟩
          have B7 := C07.blk0 HBd.out
          have y3 := B7.cell' (i := 3) (v := .slice (some ⟨gl, ol, none⟩) (ln.length + 1) c1) (by rfl)
          have yf3 := B7.frozen 3
          have yl := B7.lt
          have hz7 := HC7.out.size
          have hz6' := HZ6.out
          have hbx' := HBX.out
          have hz7' : bx < w7.heap.size := by omega
          have HB7b := Lib.hid B7
          have lc0 : (1 : Int) ≤ (ln.length : Int) + 1 := by omega
          have lc1 : (ln.length : Int) + 1 ≤ c1 := by omega
          clear hw7 hz6' hbx' B7 z0 z1 z2 z3 f0 f1 f2 f3 zl
          obtain ⟨o', ho'⟩ : ∃ o', (if 1 = c1 then ol else ol + 1) = o' := ⟨_, rfl⟩
          have hdr := Own.drop1 (n := ln.length) HLd.out
          rw [ho'] at hdr
          have HDR := Lib.hid hdr
          have HOFF := Lib.hid ho'
          clear hdr ho'
          go_cut [] (fun wx => wx = w7.setCell ⟨b, 3, none⟩ (.slice (some ⟨gl, o', none⟩) ln.length (c1 - 1)))
          case first =>
            by_cases hc1 : 1 = c1
            · have h1 := HOFF.out
              rw [if_pos hc1] at h1
              subst h1
              have hln : ln.length = 0 := by omega
              have hc2 : c1 = 1 := hc1.symm
              clear hc1
              go_wp2_with fail
              all_goals (go_meet; first | rfl | (rw [hc2]; rfl) | simp [hc2, hln])
            · have h1 := HOFF.out
              rw [if_neg hc1] at h1
              subst h1
              have hc2 : ¬ c1 = 1 := fun e => hc1 e.symm
              go_wp2_with fail
              all_goals (go_meet; first | rfl | simp)
          case rest =>
            subst hcut
            have B8 := HB7b.out.set 3 (.slice (some ⟨gl, o', none⟩) ln.length (c1 - 1))
            have CS8 := (Chg.refl (· = b) w7).setCell (a := ⟨b, 3, none⟩) (.inl rfl) (.slice (some ⟨gl, o', none⟩) ln.length (c1 - 1))
            have hz8 := CS8.size
            have BX8 := CS8.blk HB7.out (fun e => by have := HBX.out; have := HBd.out.lt; omega)
            have hz8' : bx < (w7.setCell ⟨b, 3, none⟩ (.slice (some ⟨gl, o', none⟩) ln.length (c1 - 1))).heap.size := by omega
            generalize hw8 : w7.setCell ⟨b, 3, none⟩ (.slice (some ⟨gl, o', none⟩) ln.length (c1 - 1)) = w8 at *
            have y5 := B8.cell' (i := 5) (v := .int .u64 nx) (by rfl)
            have yf5 := B8.frozen 5
            have yl := B8.lt
            have hnb : nx ≤ 2000000 := by have := HNM.out; omega
            have hnb0 : 0 ≤ nx := by have := HNM.out; have := HOM.out; omega
            clear y3 yf3 hw8
            go_upto_region 9 with fail
            have B9 := B8.set 5 (.int .u64 (nx + 1))
            have CS9 := (Chg.refl (· = b) w8).setCell (a := ⟨b, 5, none⟩) (.inl rfl) (.int .u64 (nx + 1))
            have hz9 := CS9.size
            have BX9 := CS9.blk BX8 (fun e => by have := HBX.out; have := HBd.out.lt; omega)
            generalize hw9 : w8.setCell ⟨b, 5, none⟩ (.int .u64 (nx + 1)) = w9 at *
            have C79 : Chg (· = b) w7 w9 := CS8.trans CS9 fun _ _ h => h
            have Cd9 : Chg (· = b) wd w9 := (C07.mono (S' := (· = b)) fun _ _ h => h.elim).trans C79 fun _ _ h => h
            have y4 := B9.cell' (i := 4) (v := .slice p2 fs.length c2) (by rfl)
            have u0 := BX9.cell' (i := 0) (v := .int .u64 nx) (by rfl)
            have u1 := BX9.cell' (i := 1) (v := .slice pv s.size cv) (by rfl)
            have u2 := BX9.cell' (i := 2) (v := .int .i64 (t + wait)) (by rfl)
            have u3 := BX9.cell' (i := 3) (v := .int .i64 wait) (by rfl)
            have yl := B9.lt
            have HB9 := Lib.hid B9
            have HBX9 := Lib.hid BX9
            have HCd9 := Lib.hid Cd9
            have hF9 := HFd.out.chg Cd9 fun k hk e => (B2.out k hk).2.1 e
            have HF9 := Lib.hid hF9
            clear hw9 B8 CS8 CS9 B9 BX8 BX9 y5 yf5 C79 Cd9
            refine wp_region_take 8 [0, 1, 2, 3, 4, 5] [6, 7] (fun w' => w'.cell? ⟨b, 4, none⟩ = some (.slice p2 fs.length c2) ∧ w'.cell? ⟨bx, 0, none⟩ = some (.int .u64 nx) ∧ w'.cell? ⟨bx, 1, none⟩ = some (.slice pv s.size cv) ∧ w'.cell? ⟨bx, 2, none⟩ = some (.int .i64 (t + wait)) ∧ w'.cell? ⟨bx, 3, none⟩ = some (.int .i64 wait)) (by kernel_rfl) (by kernel_rfl) (fun _ _ _ _ _ h => h) (⟨y4, u0, u1, u2, u3⟩) ?_
            simp only [pickOps_nil, pickOps_cons, Option.getD_some, List.getElem?_toArray, List.getElem?_cons_zero, List.getElem?_cons_succ, List.cons_append, List.nil_append, List.drop_succ_cons, List.drop_zero]
            repeat
              refine wpTake_cons' rfl ?_
              apply Exists.intro
              refine ⟨fun wS hS => ?_, ?_⟩
              · try dsimp only at hS
                obtain ⟨y4, u0, u1, u2, u3⟩ := hS
                go_simp
                try rfl
              simp only [Act.put, List.setIfInBounds_toArray, List.set_cons_zero, List.set_cons_succ]
            refine wpTake_nil ?_
            refine wpForce_cons rfl (fun K hK => ?_)
            go_simp
            have C10 := ((Chg.refl NoB w9).alloc (.cells #[.int .u64 nx, .slice pv s.size cv, .int .i64 (t + wait), .int .i64 wait] 133)).drew
            have hrow : Sl (w9.alloc (.cells #[.int .u64 nx, .slice pv s.size cv, .int .i64 (t + wait), .int .i64 wait] 133)).drew (fun k => k = w9.heap.size) 4 (.slice (some ⟨w9.heap.size, 0, none⟩) 1 1) 1 (fcell ⟨nx, s, t + wait, wait⟩ (.slice pv s.size cv)) :=
              (Sl.fresh w9 (fcell ⟨nx, s, t + wait, wait⟩ (.slice pv s.size cv)) 133 1 rfl).chg (Chg.refl NoB _).drew fun _ _ => id
            have hz10 : (w9.alloc (.cells #[.int .u64 nx, .slice pv s.size cv, .int .i64 (t + wait), .int .i64 wait] 133)).drew.heap.size = w9.heap.size + 1 := by simp
            have HZ10 := Lib.hid hz10
            refine hK _ _ ⟨C10.cell y4 id, C10.cell u0 id, C10.cell u1 id, C10.cell u2 id, C10.cell u3 id⟩ ?_
            clear hz10
            generalize hw10 : (w9.alloc (.cells #[.int .u64 nx, .slice pv s.size cv, .int .i64 (t + wait), .int .i64 wait] 133)).drew = w10 at *
            refine wpForce_cons rfl (fun K2 hK2 => ?_)
            have hF10 := HF9.out.chg0 C10
            have hone : ∀ u ∈ fcell ⟨nx, s, t + wait, wait⟩ (Value.slice pv s.size cv), u.oneCell' = true := by simp [fcell, Value.oneCell']
            refine opwp_app _ _ 129 rfl j0 _ 48 Try.underlying129 hj0 hjz0 hjz1 hjz2 rfl (by rfl) hF10 _ 1 _ (by rfl) hrow hone (by unfold maxLen; omega) (by omega) ?_
            intro v11 w11 o11 g11 _
            obtain ⟨p11, c11, rfl⟩ := o11.form
            have C11 : Chg (fun k => (Value.slice p2 fs.length c2).ownBlock = some k) w10 w11 := (Chg.refl _ w10).grown g11 (fun k hk => .inl hk)
            have hOBF := HFd.out.ownBlock
            have hOB9 := HF9.out.ownBlock
            have nb : ∀ k, (Value.slice p2 fs.length c2).ownBlock = some k → k < wd.heap.size ∧ S2 k ∧ k ≠ b := fun k e => ⟨(hOBF k e).2, (hOBF k e).1, (B2.out k (hOBF k e).1).2.1⟩
            have BX11 := C11.blk (C10.blk0 HBX9.out) (fun e => by have := (nb _ e).1; have := HBX.out; omega)
            have BB11 := C11.blk (C10.blk0 HB9.out) (fun e => (nb _ e).2.2 rfl)
            have v0 := BX11.cell' (i := 0) (v := .int .u64 nx) (by rfl)
            have v1 := BX11.cell' (i := 1) (v := .slice pv s.size cv) (by rfl)
            have v2 := BX11.cell' (i := 2) (v := .int .i64 (t + wait)) (by rfl)
            have v3 := BX11.cell' (i := 3) (v := .int .i64 wait) (by rfl)
            have v4 := BB11.cell' (i := 4) (v := .slice p2 fs.length c2) (by rfl)
            have vf := BB11.frozen 4
            have vl := BB11.lt
            refine hK2 _ _ ⟨v4, v0, v1, v2, v3⟩ ?_
            refine wpForce_nil ?_
            have HB11 := Lib.hid BB11
            have HBX11 := Lib.hid BX11
            have HO11 := Lib.hid o11
            have HNB := Lib.hid nb
            have hz11 := C11.size
            clear hK hK2 K K2 hw10 g11 o11 hF10 hone hrow y4 u0 u1 u2 u3 BX11 BB11 v0 v1 v2 v3 hOBF hOB9 nb
            go_upto_region 10 with fail
            have CS12 := (Chg.refl (· = b) w11).setCell (a := ⟨b, 4, none⟩) (.inl rfl) (.slice p11 (fs.length + 1) c11)
            have B12 := HB11.out.set 4 (.slice p11 (fs.length + 1) c11)
            have hbxb : bx ≠ b := fun e => by have := HBX.out; have := HBd.out.lt; omega
            have BX12 := CS12.blk HBX11.out hbxb
            have hz12 := CS12.size
            generalize hw12 : w11.setCell ⟨b, 4, none⟩ (.slice p11 (fs.length + 1) c11) = w12 at *
            have hO12 := HO11.out.chg CS12 (fun k hk e => hk.elim (fun hk => (HNB.out k hk).2.2 e) (fun hk => by have := HZ10.out; have := HBd.out.lt; have := C10.size; have := HCd9.out.size; omega))
            have CA : Chg (fun k => k = b ∨ (Value.slice p2 fs.length c2).ownBlock = some k) wd w12 :=
              (((HCd9.out.mono (S' := fun k => k = b ∨ (Value.slice p2 fs.length c2).ownBlock = some k) fun k _ h => .inl h).then0 C10).trans C11 fun k _ h => .inr h).trans CS12 fun k _ h => .inl h
            have v0 := BX12.cell' (i := 0) (v := .int .u64 nx) (by rfl)
            have v1 := BX12.cell' (i := 1) (v := .slice pv s.size cv) (by rfl)
            have v2 := BX12.cell' (i := 2) (v := .int .i64 (t + wait)) (by rfl)
            have v3 := BX12.cell' (i := 3) (v := .int .i64 wait) (by rfl)
            have HB12 := Lib.hid B12
            have HO12 := Lib.hid hO12
            have HCA := Lib.hid CA
            clear hw12 B12 BX12 hO12 CA CS12 vf vl v4
            have dO : ∀ k, (w.heap.size ≤ k ∧ ¬ T k) → ¬ (k = b ∨ (Value.slice p2 fs.length c2).ownBlock = some k) := by
              rintro k ⟨a1, a2⟩ (e | e)
              · subst e; rcases b0.1 with h | h
                · omega
                · exact a2 h.2
              · rcases (B2.out k (HNB.out k e).2.1).1.1 with h | h
                · omega
                · exact a2 h.2
            have hO12 := (HOd.out.chg HCA.out dO)
            have hV12 := HVS.out.chg HCA.out fun k hk e => e.elim (fun e => (B3.out k hk).2 e) (fun e => (B2.out k (HNB.out k e).2.1).2.2 hk)
            have hzA := HCA.out.size
            have hz0 := HCd.out.size
            have hxd : wd.heap.size ≤ w10.heap.size := by have := HZ10.out; have := HCd9.out.size; omega
            obtain ⟨T1, T2, vs, d1', d2', hOo, hOr⟩ := (HOd.out.bound (S' := fun k => (w.heap.size ≤ k ∧ ¬ T k) ∧ k < wd.heap.size) fun k a b => ⟨b, a⟩)
            have dO' : ∀ k, ((w.heap.size ≤ k ∧ ¬ T k) ∧ k < wd.heap.size) → ¬ (k = b ∨ (Value.slice p2 fs.length c2).ownBlock = some k) := fun k h => dO k h.1
            have hOo := hOo.chg HCA.out fun k hk => dO' k (d1' k hk).1
            have hOr := hOr.chg HCA.out fun k hk => dO' k (d2' k hk)
            have hol : (agOut t fl ++ o1).length ≤ 2000 := by
              have h1 : (agOut t fl).length ≤ fl.length := by unfold agOut; rw [List.length_map]; exact List.length_filter_le _ _
              have := HOM.out
              rw [List.length_append]; omega
            generalize hoo : agOut t fl ++ o1 = outs at *
            have HOO' := Lib.hid hoo
            have hsz : s.size ≤ 4120 := HLOK.out s (by simp)
            have DO := Lib.hid dO
            have D1 := Lib.hid d1'
            have D2 := Lib.hid d2'
            have HOo := Lib.hid hOo
            have HOr := Lib.hid hOr
            have HZZ := Lib.hid hz0
            clear dO dO' d1' d2' hOo hOr hO12 hoo hz0
            go_wp2_with fail
            refine (itemAt nx (t + wait) wait _ s hV12 (by omega)).mono ?_
            rintro e w13 ⟨_, rfl, p13, c13, rfl, O13, C13⟩
            have A6 := (Chg.refl NoB w13).alloc (.cells #[.int .u64 nx, .slice p13 s.size c13] 100)
            have oA := (HOo.out.chg0 C13).chg0 A6
            have sA : Sl (w13.alloc (.cells #[.int .u64 nx, .slice p13 s.size c13] 100)) _ 2 (.slice (some ⟨w13.heap.size, 0, none⟩) 1 1) 1 [.int .u64 nx, .slice p13 s.size c13] := Sl.fresh w13 [.int .u64 nx, .slice p13 s.size c13] 100 1 rfl
            have one1 : ∀ u ∈ [Value.int .u64 nx, .slice p13 s.size c13], u.oneCell' = true := by simp [Value.oneCell']
            have b1' : outs.length + 1 ≤ maxLen := by unfold maxLen; omega
            have b2' : (outs.length + 1) * 32 ≤ 140737488355328 := by omega
            have HO13 := Lib.hid O13
            clear v0 v1 v2 v3 O13 hV12
            go_wp2_with (at_builtin; go_must (refine wpList_app rfl _ _ 87 rfl i0 _ 32 Try.underlying87 hi0 hz0 hz1 hz2 rfl rfl oA _ 1 _ rfl sA one1 b1' b2' ?_))
            intro v15 w15 o15 g15 _
            have C15 : Chg (fun k => Value.ownBlock u5 = some k) w13 w15 := (A6.mono (fun _ _ h => h.elim)).grown g15 (fun k hk => .inl hk)
            obtain ⟨R15, CC15⟩ := OutAt.rebuild (S := fun k => (w.heap.size ≤ k ∧ ¬ T k) ∧ k < wd.heap.size) (fun k h => ⟨⟨(D1.out k h).1, by have := (D1.out k h).1.2; omega⟩, (D1.out k h).2⟩) (fun k h => ⟨D2.out k h, by have := (D2.out k h).2; omega⟩) HOo.out HOr.out C13 HO13.out o15 (by first | omega | simp) C15
            have HR15 := Lib.hid R15
            clear o15 oA sA one1 b1' b2' g15 A6 C15 C13 R15
            have hzw : w.heap.size ≤ wr.heap.size := hzr
            have hz0 := HZZ.out
            -- the sender behind the round
            have dO := DO.out
            have e1 : ∀ k, S1 k → ¬ (k = b ∨ (Value.slice p2 fs.length c2).ownBlock = some k) := fun k hk e => e.elim (B1.out k hk).2.1 (fun e => (B1.out k hk).2.2.1 (HNB.out k e).2.1)
            have e3 : ∀ k, S3 k → ¬ (k = b ∨ (Value.slice p2 fs.length c2).ownBlock = some k) := fun k hk e => e.elim (B3.out k hk).2 (fun e => (B2.out k (HNB.out k e).2.1).2.2 hk)
            have G12 : SendAt (fun k => (S k ∧ k < w.heap.size) ∨ (w.heap.size ≤ k ∧ ((T k ∧ k < wr.heap.size) ∨ (k = w10.heap.size ∧ k < w12.heap.size)))) w12 b window wait longest ln (fs ++ [⟨nx, s, t + wait, wait⟩]) (nx + 1) := by
              refine ⟨S1, fun k => (Value.slice p2 fs.length c2).ownBlock = some k ∨ (k = w10.heap.size ∧ k < w12.heap.size), S3, _, _, ls', ds ++ [.slice pv s.size cv], ?_, fun k hk => ?_, fun k hk => ?_, fun k hk => ?_, HB12.out, HDR.out.chg HCA.out e1, ?_, ?_, ?_⟩
              · exact b0.1.elim .inl (fun h => .inr ⟨h.1, .inl ⟨h.2, b0.2⟩⟩)
              · obtain ⟨⟨x1, x2⟩, x3, x4, x5⟩ := B1.out k hk
                refine ⟨x1.elim .inl (fun h => .inr ⟨h.1, .inl ⟨h.2, x2⟩⟩), x3, fun e => e.elim (fun e => x4 (HNB.out k e).2.1) (fun e => by omega), x5⟩
              · rcases hk with hk | hk
                · obtain ⟨⟨x1, x2⟩, x3, x4⟩ := B2.out k (HNB.out k hk).2.1
                  exact ⟨x1.elim .inl (fun h => .inr ⟨h.1, .inl ⟨h.2, x2⟩⟩), x3, x4⟩
                · refine ⟨.inr ⟨by omega, .inr hk⟩, fun e => ?_, fun e => ?_⟩
                  · have := HBd.out.lt; omega
                  · have := (B3.out k e).1.2; omega
              · obtain ⟨⟨x1, x2⟩, x3⟩ := B3.out k hk
                exact ⟨x1.elim .inl (fun h => .inr ⟨h.1, .inl ⟨h.2, x2⟩⟩), x3⟩
              · exact (RowsAt.tail HRd.out).chg HCA.out e3
              · rw [fcells_app _ _ _ _ (by have := HQd.out.1; simpa [fbodies] using this), List.length_append]
                exact HO12.out.monoIn fun k h1 h2 => h2.elim .inl (fun h => .inr ⟨h, h1⟩)
              · rw [show fbodies (fs ++ [⟨nx, s, t + wait, wait⟩]) = fbodies fs ++ [byteCells s] by simp [fbodies]]
                exact RowsAt.snoc (HQd.out.chg HCA.out e3) (by rw [byteCells_len]; exact HVS.out.chg HCA.out e3)
            have G15 := G12.chg CC15 fun k hk e => by
              rcases hk with hk | ⟨hk1, hk2 | hk2⟩
              · omega
              · exact e.1.2 hk2.1
              · omega
            have O15 := HR15.out.bound (S' := fun k => w.heap.size ≤ k ∧ ¬ ((T k ∧ k < wr.heap.size) ∨ (k = w10.heap.size ∧ k < w12.heap.size))) fun k _ h => by
              rcases h with h | h
              · exact ⟨h.1.1, fun e => e.elim (fun e => h.1.2 e.1) (fun e => by omega)⟩
              · exact ⟨by omega, fun e => by omega⟩
            rw [← HOO'.out] at O15
            have CF : Chg S w w15 := (HCd.out.trans HCA.out fun k hk e => by
              rcases e with e | e
              · subst e; exact b0.1.elim (fun h => h.1) (fun h => by omega)
              · exact (B2.out k (HNB.out k e).2.1).1.1.elim (fun h => h.1) (fun h => by omega)).trans CC15 fun k hk e => by omega
            have hfi := HFI.out
            unfold fillF at hfi
            rw [if_pos hw] at hfi
            obtain ⟨f1, f2⟩ := Prod.mk.inj hfi
            have HGG := Lib.hid G15
            have HOO2 := Lib.hid O15
            have HF1 := Lib.hid f1
            have HF2 := Lib.hid f2
            have HCF := Lib.hid CF
            clear G12 G15 O15 CF CC15 hfi f1 f2 e1 e3 dO
            go_wp2_with fail
            go_roundg ln.length
            case measure => have := HLM.out; simp only [List.length_cons] at this; omega
            case rel =>
              have hlm := HLM.out
              simp only [List.length_cons] at hlm
              refine ⟨ln, fs ++ [⟨nx, s, t + wait, wait⟩], nx + 1, o1 ++ [(nx, s)], _, _, rfl, fun x hx => HLOK.out x (List.mem_cons_of_mem _ hx), ?_, ?_, ?_, HGG.out, ?_, Prod.ext rfl HF2.out, ?_, HCF.out⟩
              · have := HFM.out; simp; omega
              · have := HNM.out; omega
              · have := HOM.out; simp; omega
              · rw [← List.append_assoc]; exact HOO2.out
              · rw [HO2.out, ← HF1.out]; simp
      · have d1 : decide ((fs.length : Int) < window) = false := by simpa using hw
        go_wp2_with fail
        go_quiet (fail)
        have CD := (Chg.refl NoB wr).drewN nq
        have HCD := Lib.hid CD
        clear CD
        go_wp2_with fail
        go_ret
        have hfi := HFI.out
        have hfe : (o3, line2, fl2, next2) = ([], ln, fs, nx) := by rw [← hfi]; first | rfl | (unfold fillF; rw [if_neg hw]) | (cases ln <;> simp [fillF, hw])
        cases hfe
        have ho := HO2.out
        rw [List.append_nil] at ho
        subst ho
        exact ⟨_, rfl, T, (SendAt.bound ⟨S1, S2, S3, _, _, ls, ds, b0, B1.out, B2.out, B3.out, HCD.out.blk0 HB.out, HL.out.chg0 HCD.out, HR.out.chg0 HCD.out, HF.out.chg0 HCD.out, HQ.out.chg0 HCD.out⟩ fun k _ h => h.1), HO.out.chg0 HCD.out, HCR.out.then0 HCD.out⟩
end Go.Proofs.Ytokigldggkkbcaa
