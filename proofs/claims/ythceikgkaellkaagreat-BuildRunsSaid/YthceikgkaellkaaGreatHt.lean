/- What must be answered ahead of everything else. No condition. A piece is run from registers on: the walk. No condition. -/
import Derived.Test.YthceikgkaellkaaGreatHr
import Derived.Test.YthceikgkaellkaaGreatHn
import Derived.Deep.MidRow
set_option linter.unusedVariables false
namespace Go.Proofs.YthceikgkaellkaaGreat
open Go.RowKit Go.RR

def l0 : List In := [⟨1, 3, 0, 0, 2⟩, ⟨3, 3, 3, 0, 11⟩, ⟨2, 3, 3, 0, 904⟩]
theorem l0_eq : constF 3 (sgn 5000) = l0 := by decide +kernel
theorem l0_times : (timesF 2 3 l0).length = 6 := by decide +kernel
theorem l0_move : (moveF 1 2).length = 1 := by decide +kernel
theorem l0_right : rightP l0 = true := by decide +kernel
theorem l0_uses : usesF l0 = 8 := by decide +kernel
theorem l0_lock : lockB 1 0 2 2 = false := by decide +kernel
theorem l0_within : (withinF 1 0 2 3 l0).length = 8 := by decide +kernel

set_option maxHeartbeats 2000000 in
set_option maxRecDepth 100000 in
theorem first39_any (w : World) : Calls Tryz.prog 24 #[] w (RetW (.bool true) fun w' => Chg NoB w w') := by
  go_enter Tryz.func24, Tryz.ntmps24
  go_wp2_with fail
  refine (const_any 3 5000 _ (by decide) (by decide)).mono ?_
  rintro e w1 ⟨v1, rfl, N1⟩
  rw [l0_eq] at N1
  obtain ⟨p1, c1, rfl, hI⟩ := InsAt.of N1.1.sl (by decide)
  obtain ⟨g, of, rfl, hg, -, -, -, -, x4⟩ := hI.at (n := 0) rfl
  obtain ⟨g', of', e, hg', -, -, -, -, y4⟩ := hI.at (n := 2) rfl
  cases e
  simp only [Nat.zero_mul, Nat.add_zero] at x4
  have HN := Lib.hid N1
  have hl0 : l0.length = 3 := rfl
  have HL := Lib.hid hl0
  have hcap := hI.cap
  rw [hl0] at hcap ⊢
  clear N1 hI hl0
  go_wp2_with fail
  have HA := Lib.hid (show PAt w1 (.slice (some ⟨g, of, none⟩) 3 c1) l0 from HN.out.at)
  refine (times_any 2 3 _ l0 _ HA.out (by decide)).mono ?_
  rintro e w2 ⟨v2, rfl, N2⟩
  obtain ⟨p2, c2, e⟩ := N2.1.form
  rw [l0_times] at e
  subst e
  have HC2 := Lib.hid N2.2
  clear N2
  go_wp2_with fail
  refine (move_any 1 2 _).mono ?_
  rintro e w3 ⟨v3, rfl, N3⟩
  obtain ⟨p3, c3, e⟩ := N3.1.form
  rw [l0_move] at e
  subst e
  have HC3 := Lib.hid (HC2.out.step N3.2)
  clear N3
  go_wp2_with fail
  refine (bright_any _ _ l0 _ (HA.out.chg0 HC3.out).choose_spec (by decide)).mono ?_
  rintro e w4 ⟨rfl, C4⟩
  rw [l0_right]
  have HC4 := Lib.hid (HC3.out.step C4)
  clear C4
  go_wp2_with fail
  refine (uses39_any _ _ l0 _ (HA.out.chg0 HC4.out).choose_spec (by decide)).mono ?_
  rintro e w5 ⟨rfl, C5⟩
  rw [l0_uses]
  have HC5 := Lib.hid (HC4.out.step C5)
  clear C5
  go_wp2_with fail
  refine (lock_no 1 0 2 2 _ l0_lock).mono ?_
  rintro e w6 ⟨rfl, rfl⟩
  go_wp2_with fail
  refine (within_any 1 0 2 3 _ l0 _ (HA.out.chg0 HC5.out) (by decide)).mono ?_
  rintro e w7 ⟨v7, rfl, N7⟩
  obtain ⟨p7, c7, e⟩ := N7.1.form
  rw [l0_within] at e
  subst e
  have HC7 := Lib.hid (HC5.out.step N7.2)
  clear N7
  go_wp2_with fail
  go_ret
  exact ⟨rfl, HN.out.2.step HC7.out⟩
end Go.Proofs.YthceikgkaellkaaGreat
set_option linter.unusedVariables false
set_option linter.unusedSimpArgs false
namespace Go.Proofs.YthceikgkaellkaaGreat
open Go.RowKit Go.RR
theorem chg_setCells {S : Nat → Prop} {w w' : World} (h : Chg S w w') {b : Nat} (hb : S b ∨ w.heap.size ≤ b) : ∀ (vs : List Value) (o : Nat), Chg S w (w'.setCells b o vs) := by
  intro vs
  induction vs generalizing w' with
  | nil => exact fun o => h
  | cons v vs ih => exact fun o => ih (h.setCell (a := ⟨b, o, none⟩) hb v) (o + 1)
theorem did_done (b : Bool) (a1 a2 a3 a4 a5 a6 a7 a8 a9 a10 a11 a12 : Int) (w : World) : (Instr.field 43 (.agg #[.bool b, .int .i64 a1, .int .i64 a2, .int .i64 a3, .int .i64 a4, .int .i64 a5, .int .u64 a6, .int .i64 a7, .int .i64 a8, .int .u64 a9, .int .i64 a10, .int .u64 a11, .int .u64 a12]) 0).run Tryz.prog w = .ok (.bool b) w := by kernel_rfl
set_option maxHeartbeats 4000000 in
set_option maxRecDepth 100000 in
theorem prun_any {w : World} (p : List In) (S : Nat → Prop) (v : Value) (hs : Sl w S 5 v p.length (icells p)) (hr : ∀ i ∈ p, rightB i = true) (hl : p.length ≤ 999) (f : Nat → Nat) (hf : ∀ k, f k < 18446744073709551616) (most : Nat) (hm : most ≤ 100000) (c' : Cor)
    (hc : runC (p ++ [haltI]) most (regC f 16) = some c') (hr1 : c'.run = 1) (hp1 : c'.pc = 65536 + 4 * p.length) :
    Calls Tryz.prog 29 #[v, .agg #[.int .u64 (f 0), .int .u64 (f 1), .int .u64 (f 2), .int .u64 (f 3), .int .u64 (f 4), .int .u64 (f 5), .int .u64 (f 6), .int .u64 (f 7), .int .u64 (f 8), .int .u64 (f 9), .int .u64 (f 10), .int .u64 (f 11), .int .u64 (f 12), .int .u64 (f 13), .int .u64 (f 14), .int .u64 (f 15)], .int .i64 most] w (RetW (.tuple #[.agg (rcs c'.r), .bool true]) fun w' => Chg NoB w w') := by
  obtain ⟨i0, hi0, hz0, hz1, hz2⟩ := info_parts INinfo
  have HIF := Lib.hid (And.intro hi0 (And.intro hz0 (And.intro hz1 hz2)))
  obtain ⟨vp, vc, hvf⟩ := hs.form
  subst hvf
  have HV := Lib.hid hs
  have HPL := Lib.hid (progL_halt hr hl)
  have HF := Lib.hid hf
  have HC := Lib.hid hc
  have HR1 := Lib.hid hr1
  have HP1 := Lib.hid hp1
  have HHR := Lib.hid hr
  have HHL := Lib.hid hl
  clear hi0 hz0 hz1 hz2 hs hr hf hc hr1 hp1
  go_enter Tryz.func29, Tryz.ntmps29
  go_upto_region 1 with fail
  have hB4 := (Blk.new w #[.int .u64 (f 0), .int .u64 (f 1), .int .u64 (f 2), .int .u64 (f 3), .int .u64 (f 4), .int .u64 (f 5), .int .u64 (f 6), .int .u64 (f 7), .int .u64 (f 8), .int .u64 (f 9), .int .u64 (f 10), .int .u64 (f 11), .int .u64 (f 12), .int .u64 (f 13), .int .u64 (f 14), .int .u64 (f 15)] 65).alloc (.cells #[.int .u64 0, .int .u64 0, .int .u64 0, .int .u64 0, .int .u64 0, .int .u64 0, .int .u64 0, .int .u64 0, .int .u64 0, .int .u64 0, .int .u64 0, .int .u64 0, .int .u64 0, .int .u64 0, .int .u64 0, .int .u64 0] 65)
  have hB6 := Blk.new (w.alloc (.cells #[.int .u64 (f 0), .int .u64 (f 1), .int .u64 (f 2), .int .u64 (f 3), .int .u64 (f 4), .int .u64 (f 5), .int .u64 (f 6), .int .u64 (f 7), .int .u64 (f 8), .int .u64 (f 9), .int .u64 (f 10), .int .u64 (f 11), .int .u64 (f 12), .int .u64 (f 13), .int .u64 (f 14), .int .u64 (f 15)] 65)) #[.int .u64 0, .int .u64 0, .int .u64 0, .int .u64 0, .int .u64 0, .int .u64 0, .int .u64 0, .int .u64 0, .int .u64 0, .int .u64 0, .int .u64 0, .int .u64 0, .int .u64 0, .int .u64 0, .int .u64 0, .int .u64 0] 65
  rw [World.size_alloc] at hB6
  have k1 : Chg NoB w ((w.alloc (.cells #[.int .u64 (f 0), .int .u64 (f 1), .int .u64 (f 2), .int .u64 (f 3), .int .u64 (f 4), .int .u64 (f 5), .int .u64 (f 6), .int .u64 (f 7), .int .u64 (f 8), .int .u64 (f 9), .int .u64 (f 10), .int .u64 (f 11), .int .u64 (f 12), .int .u64 (f 13), .int .u64 (f 14), .int .u64 (f 15)] 65)).alloc (.cells #[.int .u64 0, .int .u64 0, .int .u64 0, .int .u64 0, .int .u64 0, .int .u64 0, .int .u64 0, .int .u64 0, .int .u64 0, .int .u64 0, .int .u64 0, .int .u64 0, .int .u64 0, .int .u64 0, .int .u64 0, .int .u64 0] 65)) := ((Chg.refl NoB w).alloc _).alloc _
  generalize (w.alloc (.cells #[.int .u64 (f 0), .int .u64 (f 1), .int .u64 (f 2), .int .u64 (f 3), .int .u64 (f 4), .int .u64 (f 5), .int .u64 (f 6), .int .u64 (f 7), .int .u64 (f 8), .int .u64 (f 9), .int .u64 (f 10), .int .u64 (f 11), .int .u64 (f 12), .int .u64 (f 13), .int .u64 (f 14), .int .u64 (f 15)] 65)).alloc (.cells #[.int .u64 0, .int .u64 0, .int .u64 0, .int .u64 0, .int .u64 0, .int .u64 0, .int .u64 0, .int .u64 0, .int .u64 0, .int .u64 0, .int .u64 0, .int .u64 0, .int .u64 0, .int .u64 0, .int .u64 0, .int .u64 0] 65) = w1 at *
  obtain ⟨b4, hb4⟩ : ∃ b, w.heap.size = b := ⟨_, rfl⟩
  have HBB : Hid (w.heap.size = b4) := Lib.hid hb4
  rw [hb4] at hB4 hB6
  simp only [hb4]
  have HB4 := Lib.hid hB4
  have HB6 := Lib.hid hB6
  have HK1 := Lib.hid k1
  obtain ⟨hi0, hz0, hz1, hz2⟩ := HIF.out
  have oA : Own (w1.alloc (.cells #[] 40)) (fun k => k = w1.heap.size) 40 5 (.slice (some ⟨w1.heap.size, 0, none⟩) 0 0) 0 [] := Own.fresh w1 [] 40 0 rfl (by unfold maxLen; omega)
  have kA : Chg NoB w1 (w1.alloc (.cells #[] 40)) := (Chg.refl NoB w1).alloc _
  have sB := HV.out.chg0 (k1.step kA)
  have one1 := icells_one p
  have q1 : 0 + p.length ≤ maxLen := by unfold maxLen; omega
  have q2 : (0 + p.length) * 40 ≤ 140737488355328 := by omega
  have HKA := Lib.hid kA
  clear hb4 hB4 hB6 k1 kA
  go_wp2_with (at_builtin; go_must (refine wpList_app rfl _ _ 53 rfl i0 _ 40 Tryz.underlying53 hi0 hz0 hz1 hz2 rfl rfl oA _ p.length _ rfl sB one1 q1 q2 ?_))
  intro v2 w2 o2 g2 _
  obtain ⟨p2, c2, e⟩ := o2.form
  subst e
  have HK2 : Hid (Chg NoB w1 w2) := Lib.hid (HKA.out.trans (grown_chg (S := fun k => k = w1.heap.size) g2 (fun k hk => by cases hk; rfl)) fun k hk e => by have e : k = w1.heap.size := e; omega)
  have HO2 : Hid (∀ k, (Value.slice p2 p.length c2).ownBlock = some k → w1.heap.size ≤ k) := Lib.hid fun k hk => by
    rcases (o2.ownBlock k hk).1 with e | e
    · cases e; exact Nat.le_refl _
    · omega
  have oB := o2.chg0 ((Chg.refl NoB w2).alloc (.cells #[.int .i64 0, .int .i64 0, .int .i64 0, .int .i64 0, .int .i64 0] 40))
  have sC := (IsNew.fresh w2 [haltI] _ rfl 1 rfl (by omega)).1.sl
  have one2 := icells_one [haltI]
  have q3 : p.length + 1 ≤ maxLen := by unfold maxLen; omega
  have q4 : (p.length + 1) * 40 ≤ 140737488355328 := by omega
  obtain ⟨hi0, hz0, hz1, hz2⟩ := HIF.out
  have HKB := Lib.hid (HK2.out.alloc (.cells #[.int .i64 0, .int .i64 0, .int .i64 0, .int .i64 0, .int .i64 0] 40))
  clear oA sB one1 q1 q2 o2 g2 HKA
  go_wp2_with (at_builtin; go_must (refine wpList_app rfl _ _ 53 rfl i0 _ 40 Tryz.underlying53 hi0 hz0 hz1 hz2 rfl rfl oB _ 1 _ rfl sC one2 q3 q4 ?_))
  intro v3 w3 o3 g3 _
  have e3 : icells p ++ icells [haltI] = icells (p ++ [haltI]) := (icells_app _ _).symm
  have e3' : p.length + 1 = (p ++ [haltI]).length := by rw [List.length_append]; rfl
  have o3' := o3
  rw [e3, e3'] at o3'
  have HK3 : Hid (Chg NoB w1 w3) := Lib.hid (HKB.out.trans (grown_chg (S := fun k => (Value.slice p2 p.length c2).ownBlock = some k) g3 (fun k hk => hk)) fun k hk e => by have := HO2.out k e; omega)
  have HMd := Lib.hid (made_any (p ++ [haltI]) _ _ o3'.sl (by rw [List.length_append]; show p.length + 1 ≤ _; omega))
  rw [HPL.out] at HMd
  have HB43 := Lib.hid (HK3.out.blk0 HB4.out)
  have HB63 := Lib.hid (HK3.out.blk0 HB6.out)
  have HW3 := Lib.hid (HK1.out.step HK3.out)
  clear oB sC one2 q3 q4 o3 o3' g3 e3 e3' hi0 hz0 hz1 hz2 HKB HV HO2 HK2 HB4 HB6 HK3
  go_wp2_with fail
  refine HMd.out.mono ?_
  rintro e w4 ⟨v4, rfl, L, cb, xb, rb, rfl, hS, hC, hL, hcb, hap, k4⟩
  have hmk := (made_ok (p := p ++ [haltI]) (fun i hi => (List.mem_append.1 hi).elim (HHR.out i) fun e => by rw [List.mem_singleton.1 e]; decide) (by rw [List.length_append]; show p.length + 1 ≤ _; omega)).all
  have HRn : Hid (Rn w4 L (madeS (p ++ [haltI])) cb (regC f 0) (p ++ [haltI])) := Lib.hid (by
    rw [regC_zero]
    exact ⟨⟨hS, hC, hap⟩, hmk.inv, hmk.prog⟩)
  have HLo : Hid (∀ k, Blks L cb k → w3.heap.size ≤ k) := Lib.hid fun k hk => hk.elim (fun e => e ▸ hcb) (hL k)
  have HB44 := Lib.hid (k4.blk0 HB43.out)
  have HBl : Hid (b4 + 1 < w3.heap.size) := Lib.hid HB63.out.lt
  have HB64 := Lib.hid (k4.blk0 HB63.out)
  have HW4 := Lib.hid (HW3.out.step k4)
  have HW34 : Hid (w3.heap.size ≤ w4.heap.size) := Lib.hid k4.size
  have g4 := (k4.blk0 HB43.out).cell
  have g4l := (k4.blk0 HB43.out).lt
  clear hS hC hL hcb hap k4 hmk HMd HB43 HB63
  go_wp2_with fail
  obtain ⟨q, hq⟩ : ∃ q, p ++ [haltI] = q := ⟨_, rfl⟩
  have HRQ : Hid (∀ i ∈ q, rightB i = true) := Lib.hid (by
    rw [← hq]
    exact fun i hi => (List.mem_append.1 hi).elim (HHR.out i) fun e => by rw [List.mem_singleton.1 e]; decide)
  rw [hq] at HRn HC
  generalize madeS q = s at *
  clear hq g4 g4l HPL HHR HIF
  have ix := fun (k : Nat) (hk : k < 16) (w' : World) => run_arr f hk w'
  unfold rcs at ix
  go_loopg [28] 16 (fun k iv wr => ∃ i : Nat, i + k = 16 ∧ iv = .int .i64 i ∧ Rn wr L s cb (regC f i) q ∧ Chg (fun k => k = cb) w4 wr)
  case atStart => exact ⟨0, rfl, rfl, HRn.out, Chg.refl _ _⟩
  case round =>
    obtain ⟨i, hik, rfl, hR, hC⟩ := hrel
    have HR := Lib.hid hR
    have HCC := Lib.hid hC
    have HIK := Lib.hid hik
    by_cases hi : i < 16
    · have t1 : decide ((i : Int) < 16) = true := decide_eq_true (by omega)
      have ixi := ix i hi
      have q2 : IntKind.i64.wrap ((i : Int) + 1) = ((i + 1 : Nat) : Int) := IntWalk.i64_in _ (by omega)
      have HS := Lib.hid (coreSet_any hR.mc.co i (f i) (HF.out i))
      rw [regC_set f hi] at HS
      have HIL := Lib.hid hi
      clear hR hC hik hi ix
      go_wp2_with fail
      refine HS.out.mono ?_
      rintro e w5 ⟨rfl, h5, k5⟩
      have HR5 : Hid (Rn w5 L s cb (regC f (i + 1)) q) := Lib.hid ⟨HR.out.mc.core h5 k5, HR.out.inv, HR.out.prog⟩
      have HC5 := Lib.hid (HCC.out.step k5)
      clear h5 k5 HS
      go_wp2_with fail
      go_roundg (16 - (i + 1))
      case rel => exact ⟨i + 1, by have := HIL.out; omega, by go_num, HR5.out, HC5.out⟩
      case measure => have := HIL.out; have := HIK.out; omega
    · have e16 : i = 16 := by omega
      subst e16
      have HCw : Hid (Chg (fun k => w3.heap.size ≤ k) w4 wr) := Lib.hid (hC.mono fun k _ e => by have e : k = cb := e; rw [e]; exact HLo.out cb (.inl rfl))
      clear hi hR hC hik ix HRn HCC HIK
      go_wp2_with fail
      go_loopg [38] most (fun k iv wx => ∃ (j : Nat) (L' : Pl) (s' : Spc) (c : Cor), j + k = most ∧ iv = .int .i64 j ∧ Rn wx L' s' cb c q ∧ L'.pb = L.pb ∧ (∀ k, Blks L' cb k → w3.heap.size ≤ k) ∧ c.run = 0 ∧ runC q (most - j) c = some c' ∧ Chg (fun k => w3.heap.size ≤ k) w4 wx)
      case atStart => exact ⟨0, L, s, regC f 16, by omega, rfl, HR.out, rfl, HLo.out, rfl, HC.out, HCw.out⟩
      case round =>
        obtain ⟨j, L', s', c, hjk, rfl, hR2, hpb, hlo, hrun, hrc, hcx⟩ := hrel
        by_cases hj : j < most
        · have t1 : decide ((j : Int) < most) = true := decide_eq_true (by omega)
          have t1' : decide (j < most) = true := decide_eq_true hj
          obtain ⟨n, hn⟩ : ∃ n, most - j = n + 1 := ⟨most - j - 1, by omega⟩
          rw [hn] at hrc
          obtain ⟨i, hi, hpu, hor⟩ := runC_step hrc
          have HU : Hid (Calls Tryz.prog 16 #[.pointer (some ⟨L.pb, 0, none⟩)] wr (RetW (.pointer (some ⟨L'.ub, 0, none⟩)) fun w' => w' = wr)) := Lib.hid (by
            have := sUnit_any hR2.mc.sp
            rw [hpb] at this
            exact this)
          have HT := Lib.hid (rnTry_any hR2 HRQ.out hrun hi hpu)
          have HOR := Lib.hid hor
          have HCX := Lib.hid hcx
          have HLX := Lib.hid hlo
          have HPB := Lib.hid hpb
          have HJK := Lib.hid hjk
          have HN := Lib.hid hn
          have HJ := Lib.hid hj
          have q2 : IntKind.i64.wrap ((j : Int) + 1) = ((j + 1 : Nat) : Int) := IntWalk.i64_in _ (by omega)
          clear hR2 hpb hlo hrun hrc hcx hjk hn hi hpu hor hj HR HC HCw
          go_wp2_with fail
          refine HU.out.mono ?_
          rintro e wu ⟨rfl, hwu⟩
          subst hwu
          go_wp2_with fail
          refine HT.out.mono ?_
          rintro e w5 ⟨rfl, L5, s5, hE, hR5, k5⟩
          have HR5 := Lib.hid hR5
          have HPB5 : Hid (L5.pb = L.pb) := Lib.hid (hE.1.trans HPB.out)
          have HLX5 : Hid (∀ k, Blks L5 cb k → w3.heap.size ≤ k) := Lib.hid fun k hk => hk.elim (fun e => HLX.out k (.inl e)) fun e => (hE.2.2 k e).elim (fun e => HLX.out k (.inr e)) fun e => by have := (HLX.out cb (.inl rfl)); have := HR5.out.mc.co.blk.lt; have := HCX.out.size; have := HBl.out; have := HB44.out.lt; have h9 := HW34.out; omega
          have HCX5 : Hid (Chg (fun k => w3.heap.size ≤ k) w4 w5) := Lib.hid (HCX.out.step (k5.mono fun k _ e => HLX.out k e))
          obtain ⟨c5, hc5⟩ : ∃ c5, coreF c i = c5 := ⟨_, rfl⟩
          rw [hc5] at HR5 HOR
          have HRun := Lib.hid (coreRun_any HR5.out.mc.co)
          clear hE hR5 k5 HT HU hc5
          obtain ⟨io, id', is, it, im⟩ := i
          simp only [DidP.agg, DidP.cells]
          have hfd := did_done
          go_wp2_with fail
          clear hfd
          refine HRun.out.mono ?_
          rintro e wv ⟨rfl, hwv⟩
          subst hwv
          rcases HOR.out with ⟨h0, h1⟩ | ⟨h0, h1⟩
          · have H0 := Lib.hid h0
            rw [h0]
            have H1 := Lib.hid h1
            clear h0 h1
            go_wp2_with fail
            go_roundg (most - (j + 1))
            case rel => exact ⟨j + 1, L5, s5, c5, by have := HJ.out; omega, by go_num, HR5.out, HPB5.out, HLX5.out, H0.out, by rw [show most - (j + 1) = n by have := HN.out; omega]; exact H1.out, HCX5.out⟩
            case measure => have := HJ.out; have := HJK.out; omega
          · subst h1
            have t5 : (c5.run != 0) = true := by simpa using h0
            clear h0
            go_wp2_with fail
            have HB9 := Lib.hid (HCX5.out.blk HB44.out (by have := HBl.out; omega))
            have HB8 := Lib.hid (HCX5.out.blk HB64.out (by have := HBl.out; omega))
            have HW9 : Hid (Chg NoB w wv) := Lib.hid (HW4.out.trans HCX5.out fun k hk e => by have e : w3.heap.size ≤ k := e; have := HW3.out.size; omega)
            have HM9 := Lib.hid HR5.out.mc.co
            have hcb4 : ¬ cb = b4 := by have := HLo.out cb (.inl rfl); have := HBl.out; omega
            have HN4 := Lib.hid hcb4
            clear hcb4
            go_loopg [51] 16 (fun k iv wx => ∃ i : Nat, i + k = 16 ∧ iv = .int .i64 i ∧ Blk wx b4 (rcs (fun k => if k < i then c5.r k else f k)) 65 ∧ Chg (fun k => k = b4) wv wx)
            case atStart => exact ⟨0, rfl, rfl, HB9.out, Chg.refl _ _⟩
            case round =>
              obtain ⟨i, hik, rfl, hB, hX⟩ := hrel
              have HXX := Lib.hid hX
              have HBX := Lib.hid hB
              have HIK2 := Lib.hid hik
              by_cases hi : i < 16
              · have t1 : decide ((i : Int) < 16) = true := decide_eq_true (by omega)
                have hRg := coreReg_any (HM9.out.chg hX HN4.out) i
                rw [if_pos ⟨by omega, by omega⟩, Int.toNat_natCast] at hRg
                have HRg := Lib.hid hRg
                have x0 := hB.cell' (rcs_at (fun k => if k < i then c5.r k else f k) hi)
                have xl := hB.lt
                have xz := hB.frozen
                have q2 : IntKind.i64.wrap ((i : Int) + 1) = ((i + 1 : Nat) : Int) := IntWalk.i64_in _ (by omega)
                have n1 : IntKind.i64.wrap (i : Int) = i := IntWalk.i64_in _ (by omega)
                have n2 : (i : Int).toNat = i := Int.toNat_natCast i
                have n3 : (0 : Int) ≤ i := by omega
                have n4 : (i : Int) < 16 := by omega
                have HIL := Lib.hid hi
                clear hB hX hik hRg hi
                go_wp2_with fail
                refine HRg.out.mono ?_
                rintro e wy ⟨rfl, hwy⟩
                subst hwy
                go_wp2_with fail
                go_roundg (16 - (i + 1))
                case rel =>
                  refine ⟨i + 1, by have := HIL.out; omega, by go_num, ?_, HXX.out.setCell (a := ⟨b4, i, none⟩) (.inl rfl) _⟩
                  have := HBX.out.set i (.int .u64 (c5.r i))
                  rw [rcs_set _ HIL.out] at this
                  have e : (fun k => if k = i then c5.r i else if k < i then c5.r k else f k) = fun k => if k < i + 1 then c5.r k else f k := by
                    funext k
                    by_cases hk : k = i
                    · rw [if_pos hk, if_pos (by omega), hk]
                    · rw [if_neg hk]
                      by_cases hl : k < i
                      · rw [if_pos hl, if_pos (by omega)]
                      · rw [if_neg hl, if_neg (by omega)]
                  rw [e] at this
                  exact this
                case measure => have := HIL.out; have := HIK2.out; omega
              · have e16 : i = 16 := by omega
                subst e16
                clear hi hX hik hB
                have HBZ : Hid (Blk wr b4 (rcs c5.r) 65) := Lib.hid HBX.out
                have HB8Z := Lib.hid (HXX.out.blk HB8.out (by show ¬ b4 + 1 = b4; omega))
                have HCZ := Lib.hid (HM9.out.chg HXX.out HN4.out)
                have HWZ : Hid (Chg NoB w wr) := Lib.hid (HW9.out.trans HXX.out fun k hk e => by have e : k = b4 := e; have := HBB.out; omega)
                have HN5 : Hid (¬ cb = b4 + 1) := Lib.hid (by have := HLo.out cb (.inl rfl); have := HBl.out; omega)
                obtain ⟨rn, hrn⟩ : ∃ r, c5.run = r := ⟨_, rfl⟩
                obtain ⟨pv, hpv⟩ : ∃ r, c5.pc = r := ⟨_, rfl⟩
                have HRun : Hid (∀ w', Chg (fun k => k = b4 + 1) wr w' → Calls Tryz.prog 11 #[.pointer (some ⟨cb, 0, none⟩)] w' (RetW (.int .i64 rn) fun w'' => w'' = w')) := Lib.hid fun w' kk => by
                  have := coreRun_any (HCZ.out.chg kk HN5.out)
                  rw [hrn] at this
                  exact this
                have HPc : Hid (∀ w', Chg (fun k => k = b4 + 1) wr w' → Calls Tryz.prog 19 #[.pointer (some ⟨cb, 0, none⟩)] w' (RetW (.int .u64 pv) fun w'' => w'' = w')) := Lib.hid fun w' kk => by
                  have := corePc_any (HCZ.out.chg kk HN5.out)
                  rw [hpv] at this
                  exact this
                obtain ⟨CS, hCS⟩ : ∃ l : List Value, (rcs c5.r).toList = l := ⟨_, rfl⟩
                have HCS := Lib.hid hCS
                have hlen : CS.length = 16 := by rw [← hCS]; rfl
                have hone : ∀ v ∈ CS, v.oneCell' = true := by
                  rw [← hCS]
                  intro v hv
                  simp only [rcs, List.mem_cons, List.not_mem_nil, or_false] at hv
                  rcases hv with rfl | rfl | rfl | rfl | rfl | rfl | rfl | rfl | rfl | rfl | rfl | rfl | rfl | rfl | rfl | rfl <;> rfl
                have hsz : (Tryz.prog.info? 65).map (·.size) = some CS.length := by rw [hlen]; kernel_rfl
                have hRa : ∀ w', Chg (fun k => k = b4 + 1) wr w' → w'.rangeAt b4 0 CS := fun w' kk j v hv => by
                  rw [Nat.zero_add]
                  refine (kk.blk HBZ.out (by omega)).cell' ?_
                  rw [← hCS] at hv
                  rwa [Array.getElem?_toList] at hv
                have hTh : wr.there (b4 + 1) 0 16 := fun j hj => by
                  rw [Nat.zero_add]
                  refine ⟨?_, HB8Z.out.frozen j⟩
                  rw [HB8Z.out.cell j]
                  iterate 16 (rcases j with _ | j; · rfl)
                  omega
                clear hCS
                have HRN := Lib.hid hrn
                have HPV := Lib.hid hpv
                clear hrn hpv HXX HBX HB9 HB8 HM9 HN4 HCZ HIK2
                go_upto_region 18 with fail
                have e6 : IntKind.u64.wrap (65536 + IntKind.u64.wrap (4 * IntKind.u64.wrap (p.length : Int))) = 65536 + 4 * (p.length : Int) := by
                  have := HHL.out
                  rw [IntKind.wrap_u64, IntKind.wrap_u64, IntKind.wrap_u64]
                  omega
                have er : rn = 1 := HRN.out.symm.trans HR1.out
                have ep : pv = 65536 + 4 * p.length := HPV.out.symm.trans HP1.out
                subst er ep
                have hund := Tryz.underlying65
                have c0 : Chg (fun k => k = b4 + 1) wr wr := Chg.refl _ wr
                have d0 := c0.drew
                have r0 := hRa _ d0
                have th0 : wr.drew.there (b4 + 1) 0 16 := hTh
                have hCk : ∀ w', Chg (fun k => k = b4 + 1) wr w' → Chg (fun k => k = b4 + 1) wr (w'.setCells (b4 + 1) 0 CS) := fun w' h => chg_setCells h (.inl rfl) CS 0
                first
                | (go_region_held3 (fun w' => Chg (fun k => k = b4 + 1) wr w' ∧ w'.rangeAt b4 0 CS ∧ w'.there (b4 + 1) 0 16) (first
                    | (exact ⟨by with_reducible assumption, by with_reducible assumption, by with_reducible assumption⟩)
                    | (exact ⟨hCk _ (by with_reducible assumption), hRa _ (hCk _ (by with_reducible assumption)), World.there_setCells (by with_reducible assumption) _ _ _⟩)) (first
                  | (go_at_call 11; (with_reducible refine (HRun.out _ (by with_reducible assumption)).mono ?_); rintro e wa ⟨rfl, hwa⟩; subst hwa)
                  | (go_at_call 19; (with_reducible refine (HPc.out _ (by with_reducible assumption)).mono ?_); rintro e wa ⟨rfl, hwa⟩; subst hwa)))
                | fail "held3"
                have kk : Chg (fun k => k = b4 + 1) wr (wr.drew.setCells (b4 + 1) 0 CS) := hCk _ d0
                have hres := World.rangeAt_setCells_same wr.drew (b4 + 1) 0 CS (by rw [hlen]; exact th0)
                go_wp2_with fail
                generalize wr.drew.setCells (b4 + 1) 0 CS = wF at *
                have g : ∀ i, i < 16 → wF.cell? ⟨b4 + 1, i, none⟩ = some (.int .u64 (c5.r i)) := fun i hi => by
                  have := hres i (.int .u64 (c5.r i)) (by rw [← HCS.out, Array.getElem?_toList]; exact rcs_at _ hi)
                  rwa [Nat.zero_add] at this
                have g0 := g 0 (by omega)
                have g1 := g 1 (by omega)
                have g2 := g 2 (by omega)
                have g3 := g 3 (by omega)
                have g4 := g 4 (by omega)
                have g5 := g 5 (by omega)
                have g6 := g 6 (by omega)
                have g7 := g 7 (by omega)
                have g8 := g 8 (by omega)
                have g9 := g 9 (by omega)
                have g10 := g 10 (by omega)
                have g11 := g 11 (by omega)
                have g12 := g 12 (by omega)
                have g13 := g 13 (by omega)
                have g14 := g 14 (by omega)
                have g15 := g 15 (by omega)
                have gl : b4 + 1 < wF.heap.size := Nat.lt_of_lt_of_le HB8Z.out.lt kk.size
                exact bodyPost_ret (v := .tuple #[.agg (rcs c5.r), .bool true]) (by simp [results, Tryz.results29, go_sem, rcs, g0, g1, g2, g3, g4, g5, g6, g7, g8, g9, g10, g11, g12, g13, g14, g15, gl]) rfl ⟨rfl, HWZ.out.trans kk fun k hk e => by have e : k = b4 + 1 := e; have := HBB.out; omega⟩
        · have hjm : j = most := by omega
          subst hjm
          rw [Nat.sub_self] at hrc
          have hrc : some c = some c' := hrc
          have e1 : c = c' := Option.some.inj hrc
          have := HR1.out
          rw [← e1, hrun] at this
          cases this
end Go.Proofs.YthceikgkaellkaaGreat
