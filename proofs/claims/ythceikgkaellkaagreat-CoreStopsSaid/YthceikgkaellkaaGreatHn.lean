/- How a core is stopped: CoreStops. No condition. A trap that can be read as data. No condition. -/
import Derived.Test.YthceikgkaellkaaGreatHm
import Derived.Deep.RegionHeld3
import Derived.Test.YthceikgkaellkaaGreatIn
set_option linter.unusedVariables false
set_option linter.unusedSimpArgs false
namespace Go.Proofs.YthceikgkaellkaaGreat
open Go.RowKit Go.RR
theorem tpart_0 (a0 a1 a2 : Int) (w : World) : (_root_.Go.part 22 #[.int .i64 a0, .int .u64 a1, .int .u64 a2] 0).run Tryz.prog w = .ok (.int .i64 a0) w := by kernel_rfl
theorem tpart_1 (a0 a1 a2 : Int) (w : World) : (_root_.Go.part 23 #[.int .i64 a0, .int .u64 a1, .int .u64 a2] 1).run Tryz.prog w = .ok (.int .u64 a1) w := by kernel_rfl
theorem tpart_2 (a0 a1 a2 : Int) (w : World) : (_root_.Go.part 23 #[.int .i64 a0, .int .u64 a1, .int .u64 a2] 2).run Tryz.prog w = .ok (.int .u64 a2) w := by kernel_rfl
theorem trap_eq (c : Int) (p a : Int) (w : World) : (Op.equalIn 10000 25 (.agg #[.int .i64 c, .int .u64 p, .int .u64 a]) (.agg #[.int .i64 c, .int .u64 p, .int .u64 a])).run Tryz.prog w = .ok true w := by
  rw [run_equalIn_agg w 9999 25 _ _ (by kernel_rfl) (by kernel_rfl)]
  simp [Program.fieldsOf, Tryz.underlying25, Op.eqFields, tpart_0, tpart_1, tpart_2, peqi 22 Tryz.underlying22, pequ 23 Tryz.underlying23]
theorem trap_guard : Tryz.prog.eqGuardType Tryz.prog.depth 25 = false := by kernel_rfl
theorem did_guard : Tryz.prog.eqGuardType Tryz.prog.depth 43 = false := by kernel_rfl
theorem did_eq (w : World) : (Op.equalIn 10000 43 (.agg #[.bool false, .int .i64 0, .int .i64 0, .int .i64 0, .int .i64 0, .int .i64 0, .int .u64 0, .int .i64 2, .int .i64 0, .int .u64 0, .int .i64 0, .int .u64 0, .int .u64 0]) (.agg #[.bool false, .int .i64 0, .int .i64 0, .int .i64 0, .int .i64 0, .int .i64 0, .int .u64 0, .int .i64 2, .int .i64 0, .int .u64 0, .int .i64 0, .int .u64 0, .int .u64 0])).run Tryz.prog w = .ok true w := by kernel_rfl
set_option maxHeartbeats 4000000 in
set_option maxRecDepth 100000 in
theorem coreStops_any (t o : Trp) (n : Int) (w : World) : Calls Tryz.prog 3 #[t.agg, o.agg, .int .i64 n] w (RetW (.bool true) fun w' => Chg NoB w w') := by
  obtain ⟨tc, tp, ta⟩ := t
  obtain ⟨oc, op, oa⟩ := o
  show Calls Tryz.prog 3 #[.agg #[.int .i64 tc, .int .u64 tp, .int .u64 ta], .agg #[.int .i64 oc, .int .u64 op, .int .u64 oa], .int .i64 n] w _
  have HF := Lib.hid fun w' => first22_any w'
  have HMd := Lib.hid fun w' => made_any (w := w') [] NoB (.slice none 0 0) (Sl.nil w' NoB 5) (by decide)
  go_enter Tryz.func3, Tryz.ntmps3
  go_wp2_with fail
  have hB1 := (Blk.new w #[.int .i64 tc, .int .u64 tp, .int .u64 ta] 25).alloc (.cells #[.int .i64 oc, .int .u64 op, .int .u64 oa] 25)
  have hB2 := Blk.new (w.alloc (.cells #[.int .i64 tc, .int .u64 tp, .int .u64 ta] 25)) #[.int .i64 oc, .int .u64 op, .int .u64 oa] 25
  rw [World.size_alloc] at hB2
  have k0 : Chg NoB w ((w.alloc (.cells #[.int .i64 tc, .int .u64 tp, .int .u64 ta] 25)).alloc (.cells #[.int .i64 oc, .int .u64 op, .int .u64 oa] 25)) := ((Chg.refl NoB w).alloc _).alloc _
  have hz0 : ((w.alloc (.cells #[.int .i64 tc, .int .u64 tp, .int .u64 ta] 25)).alloc (.cells #[.int .i64 oc, .int .u64 op, .int .u64 oa] 25)).heap.size = w.heap.size + 2 := by simp
  generalize ((w.alloc (.cells #[.int .i64 tc, .int .u64 tp, .int .u64 ta] 25)).alloc (.cells #[.int .i64 oc, .int .u64 op, .int .u64 oa] 25)) = w0 at *
  obtain ⟨tb, htb⟩ : ∃ tb, w.heap.size = tb := ⟨_, rfl⟩
  have HTB : Hid (w.heap.size = tb) := Lib.hid htb
  rw [htb] at hB1 hB2 hz0
  simp only [htb]
  refine (HF.out _).mono ?_
  rintro e w1 ⟨rfl, c1⟩
  have HB1 := Lib.hid (c1.blk0 hB1)
  have HB2 := Lib.hid (c1.blk0 hB2)
  have HK1 := Lib.hid (k0.step c1)
  have HZ1 : Hid (tb + 2 ≤ w1.heap.size) := Lib.hid (by have := c1.size; omega)
  clear hB1 hB2 k0 hz0 c1 htb
  go_wp2_with fail
  refine (HMd.out _).mono ?_
  rintro e w3 ⟨v3, rfl, L, cb, xb, rb, rfl, hS, hC, hL, hcb, hap, k3⟩
  have HMc : Hid (Mc w3 L (madeS (progL [])) cb (Cor.new 65536)) := Lib.hid ⟨hS, hC, hap⟩
  have HK3 := Lib.hid (HK1.out.step k3)
  have HLo : Hid (∀ k, Blks L cb k → tb + 2 ≤ k) := Lib.hid fun k hk => Nat.le_trans HZ1.out (hk.elim (fun e => e ▸ hcb) (hL k))
  have hcl := HLo.out cb (.inl rfl)
  have b1 := k3.blk0 HB1.out
  have b2 := k3.blk0 HB2.out
  have HB3 := Lib.hid b1
  have f1 := fun w' (k : Chg (fun k => k = cb) w3 w') => (k.blk b1 (by omega)).cell
  have f2 := fun w' (k : Chg (fun k => k = cb) w3 w') => (k.blk b2 (by omega)).cell
  have l1 := fun w' (k : Chg (fun k => k = cb) w3 w') => (k.blk b1 (by omega)).lt
  have l2 := fun w' (k : Chg (fun k => k = cb) w3 w') => (k.blk b2 (by omega)).lt
  have HRun : Hid (∀ w', Chg NoB w3 w' → Calls Tryz.prog 11 #[.pointer (some ⟨cb, 0, none⟩)] w' (RetW (.int .i64 0) fun w'' => w'' = w')) := Lib.hid fun w' k => coreRun_any (hC.chg k id)
  have HTr : Hid (∀ w', Chg NoB w3 w' → Calls Tryz.prog 12 #[.pointer (some ⟨cb, 0, none⟩)] w' (RetW (.agg #[.int .i64 0, .int .u64 0, .int .u64 0]) fun w'' => Chg NoB w' w'')) := Lib.hid fun w' k => coreTrap_any (hC.chg k id)
  have HStp : Hid (∀ w', Chg NoB w3 w' → Calls Tryz.prog 13 #[.pointer (some ⟨cb, 0, none⟩), .agg #[.int .i64 tc, .int .u64 tp, .int .u64 ta]] w' (RetW (.bool true) fun w'' => CoreAt w'' cb { (Cor.new 65536) with run := 2, trap := ⟨tc, tp, ta⟩ } ∧ Chg (fun k => k = cb) w' w'')) := Lib.hid fun w' k => coreStop_yes (hC.chg k id) rfl ⟨tc, tp, ta⟩
  obtain ⟨c2, hc2⟩ : ∃ c2 : Cor, { (Cor.new 65536) with run := 2, trap := ⟨tc, tp, ta⟩ } = c2 := ⟨_, rfl⟩
  have hr2 : c2.run = 2 := by rw [← hc2]
  have ht2 : c2.trap = ⟨tc, tp, ta⟩ := by rw [← hc2]
  rw [hc2] at HStp
  have HStp2 : Hid (∀ w', CoreAt w' cb c2 → Calls Tryz.prog 13 #[.pointer (some ⟨cb, 0, none⟩), .agg #[.int .i64 oc, .int .u64 op, .int .u64 oa]] w' (RetW (.bool false) fun w'' => Chg NoB w' w'')) := Lib.hid fun w' h => coreStop_no h (by rw [hr2]; decide) oc op oa
  have HRun2 : Hid (∀ w', CoreAt w' cb c2 → Calls Tryz.prog 11 #[.pointer (some ⟨cb, 0, none⟩)] w' (RetW (.int .i64 2) fun w'' => w'' = w')) := Lib.hid fun w' h => by
    have := coreRun_any h
    rw [hr2] at this
    exact this
  have HTr2 : Hid (∀ w', CoreAt w' cb c2 → Calls Tryz.prog 12 #[.pointer (some ⟨cb, 0, none⟩)] w' (RetW (.agg #[.int .i64 tc, .int .u64 tp, .int .u64 ta]) fun w'' => Chg NoB w' w'')) := Lib.hid fun w' h => by
    have := coreTrap_any h
    rw [ht2] at this
    exact this
  have HR2 : Hid (c2.run ≠ 0) := Lib.hid (by rw [hr2]; decide)
  clear hc2 hr2 ht2
  have q1 := trap_eq 0 0 0
  have q2 := trap_eq tc tp ta
  have q3 := trap_guard
  clear hS hC hL hcb hap k3 b1 b2 hcl
  go_upto_region 4 with fail
  have c0 := Chg.refl NoB w3
  have d0 := Chg.refl (fun k => k = cb) w3
  go_region_held3 (fun w' => Chg (fun k => k = cb) w3 w') ((repeat (first | with_reducible assumption | with_reducible apply Chg.drew | with_reducible apply Chg.drewN | with_reducible apply Chg.alloc))) (first
    | (go_at_call 11; (with_reducible refine (HRun.out _ (by first | (with_reducible assumption) | (with_reducible exact c0.drew))).mono ?_); rintro e wa ⟨rfl, hwa⟩; subst hwa)
    | (go_at_call 12; (with_reducible refine (HTr.out _ (by first | (with_reducible assumption) | (with_reducible exact c0.drew))).mono ?_); rintro e w5 ⟨rfl, c5⟩; have k5 := c0.drew.step c5; have m5 := k5.mono (S' := fun k => k = cb) (fun _ _ e => e.elim); clear c5)
    | (go_at_call 13; (with_reducible refine (HStp.out _ (by with_reducible assumption)).mono ?_); rintro e w6 ⟨rfl, h6, c6⟩; have k6 := m5.step c6; clear c6)
    | (go_at_call 13; (with_reducible refine (HStp2.out _ (by with_reducible assumption)).mono ?_); rintro e w7 ⟨rfl, c7⟩; have k7 := k6.then0 c7; have h7 := h6.chg c7 id; clear c7)
    | (go_at_call 11; (with_reducible refine (HRun2.out _ (by with_reducible assumption)).mono ?_); rintro e w8 ⟨rfl, hw8⟩; subst hw8)
    | (go_at_call 12; (with_reducible refine (HTr2.out _ (by with_reducible assumption)).mono ?_); rintro e w9 ⟨rfl, c9⟩; have k9 := k7.then0 c9; have h9 := h7.chg c9 id; clear c9))
  have k9 : Chg (fun k => k = cb) w3 w9 := by with_reducible assumption
  have HK9 : Hid (Chg NoB w w9) := Lib.hid (HK3.out.trans k9 fun k hk e => by have e : k = cb := e; have := HLo.out cb (.inl rfl); have := HTB.out; omega)
  have HM9 := Lib.hid (HMc.out.core h9 k9)
  have HB9 := Lib.hid (k9.blk HB3.out (by have := HLo.out cb (.inl rfl); omega))
  have HU : Hid (∀ w', Chg NoB w9 w' → Calls Tryz.prog 16 #[.pointer (some ⟨L.pb, 0, none⟩)] w' (RetW (.pointer (some ⟨L.ub, 0, none⟩)) fun w'' => w'' = w')) := Lib.hid fun w' k => sUnit_any (HM9.out.sp.chg0 k)
  have HT1 : Hid (∀ w', Calls Tryz.prog 15 #[.pointer none, .pointer (some ⟨L.ub, 0, none⟩), .int .i64 n] w' (RetW (.agg #[.bool false, .int .i64 0, .int .i64 0, .int .i64 0, .int .i64 0, .int .i64 0, .int .u64 0, .int .i64 2, .int .i64 0, .int .u64 0, .int .i64 0, .int .u64 0, .int .u64 0]) fun w'' => Chg NoB w' w'')) := Lib.hid fun w' => try_noCore (some ⟨L.ub, 0, none⟩) n
  have HT2 : Hid (∀ w', Chg NoB w9 w' → Calls Tryz.prog 15 #[.pointer (some ⟨cb, 0, none⟩), .pointer (some ⟨L.ub, 0, none⟩), .int .i64 n] w' (RetW (.agg #[.bool false, .int .i64 0, .int .i64 0, .int .i64 0, .int .i64 0, .int .i64 0, .int .u64 0, .int .i64 2, .int .i64 0, .int .u64 0, .int .i64 0, .int .u64 0, .int .u64 0]) fun w'' => Chg NoB w' w'')) := Lib.hid fun w' k => try_stop (HM9.out.co.chg k id) HR2.out (some ⟨L.ub, 0, none⟩) n
  have HN : Hid (∀ w', Calls Tryz.prog 17 #[.int .u64 0] w' (RetW (.pointer (some ⟨w'.heap.size, 0, none⟩)) fun w'' => CoreAt w'' w'.heap.size (Cor.new 0) ∧ Chg NoB w' w'')) := Lib.hid fun w' => coreNew_any 0 (by omega) w'
  have HSN := Lib.hid (coreSet_nil 1 1)
  clear HB3 f1 f2 l1 l2 k5 m5 k6 k7 h6 h7 h9 k9 c0 d0 HRun HTr HStp HStp2 HRun2 HTr2 HB1 HB2 HF HMd q1 q2 HM9 HMc HLo HK1 HK3 HZ1 HTB
  go_wp2_with fail
  refine (HSN.out _).mono ?_
  rintro e wa ⟨rfl, hwa⟩
  subst hwa
  go_wp2_with fail
  refine (HU.out _ (Chg.refl NoB _)).mono ?_
  rintro e wa ⟨rfl, hwa⟩
  subst hwa
  go_wp2_with fail
  refine (HT1.out _).mono ?_
  rintro e wb ⟨rfl, cb1⟩
  have hb1 := Blk.new wb #[.bool false, .int .i64 0, .int .i64 0, .int .i64 0, .int .i64 0, .int .i64 0, .int .u64 0, .int .i64 2, .int .i64 0, .int .u64 0, .int .i64 0, .int .u64 0, .int .u64 0] 43
  have kb1 := cb1.alloc (.cells #[.bool false, .int .i64 0, .int .i64 0, .int .i64 0, .int .i64 0, .int .i64 0, .int .u64 0, .int .i64 2, .int .i64 0, .int .u64 0, .int .i64 0, .int .u64 0, .int .u64 0] 43)
  go_wp2_with fail
  generalize wb.alloc (.cells #[.bool false, .int .i64 0, .int .i64 0, .int .i64 0, .int .i64 0, .int .i64 0, .int .u64 0, .int .i64 2, .int .i64 0, .int .u64 0, .int .i64 0, .int .u64 0, .int .u64 0] 43) = wd1 at *
  obtain ⟨d1, hd1⟩ : ∃ d, wb.heap.size = d := ⟨_, rfl⟩
  rw [hd1] at hb1
  simp only [hd1]
  clear hd1 cb1
  refine (HU.out _ kb1).mono ?_
  rintro e wa2 ⟨rfl, hwa⟩
  subst hwa
  go_wp2_with fail
  refine (HT2.out _ kb1).mono ?_
  rintro e wb2 ⟨rfl, cb2⟩
  have hb2 := Blk.new wb2 #[.bool false, .int .i64 0, .int .i64 0, .int .i64 0, .int .i64 0, .int .i64 0, .int .u64 0, .int .i64 2, .int .i64 0, .int .u64 0, .int .i64 0, .int .u64 0, .int .u64 0] 43
  have kb2 := cb2.alloc (.cells #[.bool false, .int .i64 0, .int .i64 0, .int .i64 0, .int .i64 0, .int .i64 0, .int .u64 0, .int .i64 2, .int .i64 0, .int .u64 0, .int .i64 0, .int .u64 0, .int .u64 0] 43)
  go_wp2_with fail
  generalize wb2.alloc (.cells #[.bool false, .int .i64 0, .int .i64 0, .int .i64 0, .int .i64 0, .int .i64 0, .int .u64 0, .int .i64 2, .int .i64 0, .int .u64 0, .int .i64 0, .int .u64 0, .int .u64 0] 43) = wd2 at *
  obtain ⟨d2, hd2⟩ : ∃ d, wb2.heap.size = d := ⟨_, rfl⟩
  rw [hd2] at hb2
  simp only [hd2]
  clear hd2 cb2
  refine (HN.out _).mono ?_
  rintro e wc ⟨rfl, hcc, cc3⟩
  have HT3 : Hid (Calls Tryz.prog 15 #[.pointer (some ⟨_, 0, none⟩), .pointer none, .int .i64 n] wc (RetW (.agg #[.bool false, .int .i64 0, .int .i64 0, .int .i64 0, .int .i64 0, .int .i64 0, .int .u64 0, .int .i64 2, .int .i64 0, .int .u64 0, .int .i64 0, .int .u64 0, .int .u64 0]) fun w'' => Chg NoB wc w'')) := Lib.hid (try_noUnit hcc rfl n)
  have HHC := Lib.hid hcc
  have HCC3 := Lib.hid cc3
  clear hcc cc3
  go_wp2_with fail
  refine HT3.out.mono ?_
  rintro e wb3 ⟨rfl, cb3⟩
  have hb3 := (Blk.new wb3 #[.bool false, .int .i64 0, .int .i64 0, .int .i64 0, .int .i64 0, .int .i64 0, .int .u64 0, .int .i64 2, .int .i64 0, .int .u64 0, .int .i64 0, .int .u64 0, .int .u64 0] 43).alloc (.cells #[.bool false, .int .i64 0, .int .i64 0, .int .i64 0, .int .i64 0, .int .i64 0, .int .u64 0, .int .i64 2, .int .i64 0, .int .u64 0, .int .i64 0, .int .u64 0, .int .u64 0] 43)
  have hb4 := Blk.new (wb3.alloc (.cells #[.bool false, .int .i64 0, .int .i64 0, .int .i64 0, .int .i64 0, .int .i64 0, .int .u64 0, .int .i64 2, .int .i64 0, .int .u64 0, .int .i64 0, .int .u64 0, .int .u64 0] 43)) #[.bool false, .int .i64 0, .int .i64 0, .int .i64 0, .int .i64 0, .int .i64 0, .int .u64 0, .int .i64 2, .int .i64 0, .int .u64 0, .int .i64 0, .int .u64 0, .int .u64 0] 43
  rw [World.size_alloc] at hb4
  have kb3 := ((HCC3.out.step cb3).alloc (.cells #[.bool false, .int .i64 0, .int .i64 0, .int .i64 0, .int .i64 0, .int .i64 0, .int .u64 0, .int .i64 2, .int .i64 0, .int .u64 0, .int .i64 0, .int .u64 0, .int .u64 0] 43)).alloc (.cells #[.bool false, .int .i64 0, .int .i64 0, .int .i64 0, .int .i64 0, .int .i64 0, .int .u64 0, .int .i64 2, .int .i64 0, .int .u64 0, .int .i64 0, .int .u64 0, .int .u64 0] 43)
  clear cb3
  have q4 := did_eq
  have q5 := did_guard
  have x1 := fun w' (k : Chg NoB wd2 w') => ((kb2.step k).blk0 hb1).cell
  have y1 := fun w' (k : Chg NoB wd2 w') => ((kb2.step k).blk0 hb1).lt
  have x2 := fun w' (k : Chg NoB wd2 w') => (k.blk0 hb2).cell
  have y2 := fun w' (k : Chg NoB wd2 w') => (k.blk0 hb2).lt
  go_upto_region 12 with fail
  generalize (wb3.alloc (.cells #[.bool false, .int .i64 0, .int .i64 0, .int .i64 0, .int .i64 0, .int .i64 0, .int .u64 0, .int .i64 2, .int .i64 0, .int .u64 0, .int .i64 0, .int .u64 0, .int .u64 0] 43)).alloc (.cells #[.bool false, .int .i64 0, .int .i64 0, .int .i64 0, .int .i64 0, .int .i64 0, .int .u64 0, .int .i64 2, .int .i64 0, .int .u64 0, .int .i64 0, .int .u64 0, .int .u64 0] 43) = wd4 at *
  obtain ⟨d3, hd3⟩ : ∃ d, wb3.heap.size = d := ⟨_, rfl⟩
  rw [hd3] at hb3 hb4
  simp only [hd3]
  have z1 := x1 _ kb3
  have z1l := y1 _ kb3
  have z2 := x2 _ kb3
  have z2l := y2 _ kb3
  have z3 := hb3.cell
  have z3l := hb3.lt
  have z4 := hb4.cell
  have z4l := hb4.lt
  have HB4 := Lib.hid (((kb1.step kb2).step kb3).blk0 HB9.out)
  have HK4 := Lib.hid (HK9.out.step ((kb1.step kb2).step kb3))
  have HRg := Lib.hid (coreReg_nil n)
  have HPc := Lib.hid corePc_nil
  have HRn := Lib.hid coreRun_nil
  have HTp : Hid (∀ w', Calls Tryz.prog 12 #[.pointer none] w' (RetW (.agg #[.int .i64 0, .int .u64 0, .int .u64 0]) fun w'' => Chg NoB w' w'')) := Lib.hid coreTrap_nil
  have HSp := Lib.hid (fun w' => coreStop_nil (w := w') tc tp ta)
  have HKi : Hid (∀ w', Calls Tryz.prog 20 #[.int .i64 0] w' fun e w'' => e = .returned (.string ⟨#[78]⟩) ∧ w' = w'') := Lib.hid (kind_any 0)
  have q6 := trap_eq 0 0 0
  clear hd3 x1 y1 x2 y2 kb1 kb2 kb3 hb1 hb2 hb3 hb4 HU HT1 HT2 HT3 HN HSN HHC HCC3 HR2 HB9 HK9
  go_wp2_with fail
  refine (HRg.out _).mono ?_
  rintro e wa ⟨rfl, hwa⟩
  subst hwa
  go_wp2_with fail
  refine (HPc.out _).mono ?_
  rintro e wa ⟨rfl, hwa⟩
  subst hwa
  go_wp2_with fail
  refine (HRn.out _).mono ?_
  rintro e wa ⟨rfl, hwa⟩
  subst hwa
  clear z1 z1l z2 z2l z3 z3l z4 z4l q4 q5
  go_wp2_with fail
  refine (HTp.out _).mono ?_
  rintro e we ⟨rfl, ce⟩
  have t1 := (ce.blk0 HB4.out).cell
  have t2 := (ce.blk0 HB4.out).lt
  have HKe := Lib.hid (HK4.out.step ce)
  clear ce
  go_wp2_with fail
  refine (HSp.out _).mono ?_
  rintro e wf ⟨rfl, cf⟩
  have HKf := Lib.hid (HKe.out.step cf)
  clear cf t1 t2
  go_wp2_with fail
  refine (HKi.out _).mono ?_
  rintro e wg ⟨rfl, hwg⟩
  subst hwg
  go_wp2_with fail
  go_ret
  exact ⟨rfl, HKf.out⟩
end Go.Proofs.YthceikgkaellkaaGreat
set_option linter.unusedVariables false
set_option linter.unusedSimpArgs false
namespace Go.Proofs.YthceikgkaellkaaGreat
open Go.RowKit Go.RR
set_option maxRecDepth 100000 in
theorem trap_rd {H : Type} {enc : TypeId × Value → H} {w : World} {c : List Value} (hr : Rd enc Tryz.prog w 25 c) (hl : c.length = 3) : ∃ t : Trp, c = [.int .i64 t.cause, .int .u64 t.pc, .int .u64 t.addr] := by
  obtain ⟨-, hf⟩ := hr.struct Tryz.underlying25
  have f0 := hf 0 _ rfl
  have f1 := hf 1 _ rfl
  have f2 := hf 2 _ rfl
  match c, hl, f0, f1, f2 with
  | [x, y, z], _, f0, f1, f2 =>
    obtain ⟨k0, e0, b0⟩ := Rd.int (k := .i64) (cs := [x]) Tryz.underlying22 f0
    cases e0
    obtain ⟨k1, e1, b1⟩ := Rd.int (k := .u64) (cs := [y]) Tryz.underlying23 f1
    cases e1
    obtain ⟨k2, e2, b2⟩ := Rd.int (k := .u64) (cs := [z]) Tryz.underlying23 f2
    cases e2
    have h1 := (bounds_u64 b1).1
    have h2 := (bounds_u64 b2).1
    exact ⟨⟨k0, k1.toNat, k2.toNat⟩, by dsimp only; rw [Int.toNat_of_nonneg h1, Int.toNat_of_nonneg h2]⟩
set_option maxRecDepth 100000 in
theorem trap_in {H : Type} {enc : TypeId × Value → H} {w : World} {b : Nat} {v : Value} (ok : Value.okWide Tryz.prog w .any b 25 v) (h : Rd enc Tryz.prog w 25 v.cells.toList) : ∃ t : Trp, v = t.agg := by
  unfold Value.okWide at ok
  rw [Tryz.underlying25] at ok
  obtain ⟨cs, rfl, hsz, -⟩ := ok
  replace h : Rd enc Tryz.prog w 25 cs.toList := h
  obtain ⟨a, e⟩ := trap_rd h (by have := (h.struct Tryz.underlying25).1; rw [this]; exact (by kernel_rfl : Tryz.prog.cellsOf 25 = 3))
  refine ⟨a, ?_⟩
  unfold Trp.agg
  congr 1
  exact Array.toList_inj.1 e
end Go.Proofs.YthceikgkaellkaaGreat
