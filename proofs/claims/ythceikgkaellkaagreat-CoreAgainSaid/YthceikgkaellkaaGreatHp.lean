/- What was not done has changed nothing, and is done when it may be: plain part of CoreAgain. No condition. CoreAgain: what was not done has changed nothing, and is done when it may be. No condition. -/
import Derived.Test.YthceikgkaellkaaGreatHm
import Derived.Test.YthceikgkaellkaaGreatHo
set_option linter.unusedVariables false
set_option linter.unusedSimpArgs false
namespace Go.Proofs.YthceikgkaellkaaGreat
open Go.RowKit Go.RR
theorem again_l (swap : Bool) : progL [againI swap] = [againI swap] := by cases swap <;> decide
theorem again_rr (swap : Bool) : ∀ i ∈ [againI swap], rightB i = true := fun i hi => by rw [List.mem_singleton.1 hi]; exact again_r swap
theorem again_cx (swap : Bool) : CxFor nilCx (againI swap).op := fun e => by cases swap <;> exact absurd e (by decide)
theorem cx_prog {s : Spc} {t1 t0 : Nat → Option Nat} (h : SpInv s t1 t0) {swap : Bool} (hp : HasProg s [againI swap]) {pc : Nat} (hpc : pc = 65536) (pick : Int) : ∀ i, instG (readF s.u pc 4 0 pick).1.1 = some i → CxFor nilCx i.op := by
  intro i hi
  obtain ⟨b, -, e⟩ := fetch_prog h hp (k := 0) (i := againI swap) rfl pick
  rw [hpc] at hi
  have e' : readF s.u 65536 4 0 pick = _ := e
  rw [e', instG_W (again_r swap)] at hi
  cases hi
  exact again_cx swap
theorem setF_u (s : Spc) (tl : Tlb) : ({ s with u := { s.u with tlb := tl } } : Spc).rights = s.rights := rfl
/-- The two tries, and the page between and behind. -/
theorem again_plain (swap : Bool) {s : Spc} (M : MkOk s [againI swap]) (hsh : s.shape = shp) {k v : Nat} (hk : k < 512) (hv : v < 18446744073709551616) {c : Cor} (h1 : c.r 1 = 1073745920 + 8 * k) (h2 : c.r 2 = v) (hr : c.run = 0) (hpc : c.pc = 65536) :
    ∃ (b1 : Tlb) (s2 : Spc) (u3 : Mu), tryF nilCx c (mk3 s [againI swap]).u 0 = (⟨false, againI swap, 65536, 15, 2, 1073745920 + 8 * k, 8, 0, 0⟩, c, { (mk3 s [againI swap]).u with tlb := b1 }) ∧
      SetOk { mk3 s [againI swap] with u := { (mk3 s [againI swap]).u with tlb := b1 } } 1 2 ∧ (setF { mk3 s [againI swap] with u := { (mk3 s [againI swap]).u with tlb := b1 } } 1 2).2 = s2 ∧
      tryF nilCx c s2.u 0 = (⟨true, againI swap, 65536, -1, 2, 1073745920 + 8 * k, 8, 0, v⟩, { (if swap then c.set 3 0 else c) with pc := 65540 }, u3) ∧
      (∀ i, instG (readF (mk3 s [againI swap]).u c.pc 4 0 0).1.1 = some i → CxFor nilCx i.op) ∧ (∀ i, instG (readF s2.u c.pc 4 0 0).1.1 = some i → CxFor nilCx i.op) ∧
      s2.shape.shared = 2 ∧ (∀ f, frameOf s2 1 = some f → f < u3.fr) ∧ getW (dataF { s2 with u := u3 } 1) (8 * k) 8 = v := by
  obtain ⟨t1, t0, I⟩ := M.inv
  have P := M.prog
  have R1 := M.r1
  obtain ⟨f, F1⟩ := M.f1
  have Z1 := M.z1 f F1
  have Sh := M.shape.trans hsh
  generalize mk3 s [againI swap] = m at *
  have hva : 1073745920 + 8 * k = 1073741824 + 1 * 4096 + 8 * k := by omega
  rw [hva] at h1 ⊢
  obtain ⟨ba, hba, ea⟩ := try_prog nilCx I P (again_rr swap) (k := 0) (i := againI swap) rfl hr hpc 0
  have Ia := I.tlb hba
  obtain ⟨bb, hbb, eb⟩ := again_do nilCx swap Ia (p := 1) (f := f) (o := 8 * k) (by omega) F1 (by show rightOf m 1 ≠ 0; rw [R1]; decide) (by omega) (by omega) h1 h2 hv 0
  have eb' : doF nilCx c { m.u with tlb := ba } (againI swap) 0 = (⟨false, againI swap, c.pc, 15, 2, 1073741824 + 1 * 4096 + 8 * k, 8, 0, 0⟩, c, { m.u with tlb := bb }) := by
    rw [show rightOf { m with u := { m.u with tlb := ba } } ((1 : Nat) : Int) = 1 from R1] at eb
    exact eb
  have Ib := I.tlb hbb
  have Rb : ∀ q, rightOf { m with u := { m.u with tlb := bb } } q = rightOf m q := fun _ => rfl
  have Fb : ∀ q, frameOf { m with u := { m.u with tlb := bb } } q = frameOf m q := fun _ => rfl
  have Pb : HasProg { m with u := { m.u with tlb := bb } } [againI swap] := ⟨P.len, P.at'⟩
  have Zb : ∀ i, i < 4096 → ({ m with u := { m.u with tlb := bb } } : Spc).u.b (f * 4096 + i) = 0 := Z1
  have Shb : ({ m with u := { m.u with tlb := bb } } : Spc).shape = shp := Sh
  refine ⟨bb, (setF { m with u := { m.u with tlb := bb } } 1 2).2, ?_⟩
  generalize ({ m with u := { m.u with tlb := bb } } : Spc) = m1 at *
  obtain ⟨S1, St1, R2, F2, Z2, t1', t0', I2, -, -, -, -⟩ := set_inv Ib (p := 1) (r := 2) (by rw [Shb]; decide) (by decide) (by decide) (fun _ => by
    have := (Rb 1).trans R1
    have h0 : noneN (frameOf m1 ((1 : Nat) : Int)) = 0 := by rw [show frameOf m1 ((1 : Nat) : Int) = some f from (Fb 1).trans F1]; rfl
    rw [h0, if_neg (by rw [show rightOf m1 ((1 : Nat) : Int) = 1 from this]; decide)]
    exact Ib.inv.nx)
  have e2 : (setF m1 ((1 : Nat) : Int) 2).2 = (setF m1 1 2).2 := rfl
  rw [e2] at St1 R2 F2 Z2 I2
  have hf2 : frameOf (setF m1 1 2).2 1 = some f := St1.frm 1 f ((Fb 1).trans F1)
  have hr2 : rightOf (setF m1 1 2).2 1 = 2 := by
    have := R2 1
    rwa [if_pos (by decide)] at this
  have P2 := Pb.stay St1
  have z2 : ∀ i, i < 4096 → (setF m1 1 2).2.u.b (f * 4096 + i) = 0 := fun i hi => by
    rw [St1.old _ (by rw [show (f * 4096 + i) / 4096 = f by omega]; exact frameOf_mem ((Fb 1).trans F1))]
    exact Zb i hi
  have Sh2 : (setF m1 1 2).2.shape = shp := St1.shape.trans Shb
  generalize (setF m1 1 2).2 = s2 at *
  obtain ⟨bc', hbc, ec⟩ := try_prog nilCx I2 P2 (again_rr swap) (k := 0) (i := againI swap) rfl hr hpc 0
  have Ic := I2.tlb hbc
  obtain ⟨bd, hbd, ed⟩ := again_do nilCx swap Ic (p := 1) (f := f) (o := 8 * k) (by omega) hf2 (by show rightOf s2 1 ≠ 0; rw [hr2]; decide) (by omega) (by omega) h1 h2 hv 0
  have hz : getW s2.u.b (f * 4096 + 8 * k) 8 = 0 := getW_zeros fun i hi => by rw [Nat.add_assoc]; exact z2 _ (by omega)
  have ed' : doF nilCx c { s2.u with tlb := bc' } (againI swap) 0 = (⟨true, againI swap, 65536, -1, 2, 1073741824 + 1 * 4096 + 8 * k, 8, 0, v⟩, { (if swap then c.set 3 0 else c) with pc := 65540 }, { s2.u with tlb := bd, b := putW s2.u.b (f * 4096 + 8 * k) 8 v }) := by
    rw [show rightOf { s2 with u := { s2.u with tlb := bc' } } ((1 : Nat) : Int) = 2 from hr2, if_pos rfl, hpc] at ed
    rw [show getW ({ s2 with u := { s2.u with tlb := bc' } } : Spc).u.b (f * 4096 + 8 * k) 8 = 0 from hz] at ed
    rw [show (if swap = true then 0 else 0 : Nat) = 0 by split <;> rfl] at ed
    exact ed
  refine ⟨{ s2.u with tlb := bd, b := putW s2.u.b (f * 4096 + 8 * k) 8 v }, ?_, S1, rfl, ec.trans ed', cx_prog I P hpc 0, cx_prog I2 P2 hpc 0, ?_, fun g hg => ?_, ?_⟩
  · rw [ea, eb', hpc]
  · rw [Sh2]; rfl
  · have h3 := (I2.ft g (frameOf_mem hg)).1
    have h4 := I2.inv.nx
    have h5 := I2.inv.fin
    have en : s2.tst.s.next = s2.stk.next := rfl
    show g < s2.u.fr
    omega
  · have : dataF { s2 with u := { s2.u with tlb := bd, b := putW s2.u.b (f * 4096 + 8 * k) 8 v } } 1 = pgF (putW s2.u.b (f * 4096 + 8 * k) 8 v) f := by
      unfold dataF
      rw [show frameOf { s2 with u := { s2.u with tlb := bd, b := putW s2.u.b (f * 4096 + 8 * k) 8 v } } 1 = some f from hf2]
    rw [this, getW_pg, show 4096 * f + 8 * k = f * 4096 + 8 * k by omega, getW_put]
    exact Nat.mod_eq_of_lt (Nat.lt_of_lt_of_eq hv (by decide))
end Go.Proofs.YthceikgkaellkaaGreat
set_option linter.unusedVariables false
set_option linter.unusedSimpArgs false
namespace Go.Proofs.YthceikgkaellkaaGreat
open Go.RowKit Go.RR
theorem dataF_ok {s : Spc} {p : Int} (h : ByOk s.u.b) : ByOk (dataF s p) := by
  intro a
  unfold dataF
  cases frameOf s p with
  | some f => exact h _
  | none => exact (by omega : 0 < 256)
/-- The core behind three registers. -/
def c3 (va v : Nat) : Cor := (((Cor.new 65536).set 1 va).set 2 v).set 3 77
set_option maxHeartbeats 4000000 in
set_option maxRecDepth 100000 in
theorem coreAgain_any (at' v : Nat) (ha : at' < 65536) (hv : v < 18446744073709551616) (swap : Bool) (w : World) : Calls Tryz.prog 4 #[.int .u16 at', .int .u64 v, .bool swap] w (RetW (.bool true) fun w' => Chg NoB w w') := by
  have HF := Lib.hid fun w' => first22_any w'
  have hi : (againI swap).agg = if swap then .agg #[.int .i64 31, .int .i64 3, .int .i64 1, .int .i64 2, .int .i64 0] else .agg #[.int .i64 29, .int .i64 0, .int .i64 1, .int .i64 2, .int .i64 0] := by cases swap <;> rfl
  obtain ⟨k, hk⟩ : ∃ k, at' % 512 = k := ⟨_, rfl⟩
  have hk5 : k < 512 := by omega
  have q1 : IntKind.u16.wrap ((at' : Int) % 512) = (k : Int) := by rw [IntKind.wrap_u16]; omega
  have q1' : ((at' : Int) % 512) = (k : Int) := by omega
  have q2 : IntKind.u64.wrap (8 * (k : Int)) = ((8 * k : Nat) : Int) := by rw [IntKind.wrap_u64]; omega
  have HM := Lib.hid ((made_ok (again_rr swap) (by show 1 ≤ 1000; omega)).all)
  have HV := Lib.hid hv
  have HK5 := Lib.hid hk5
  have HAt := Lib.hid ha
  clear hi hv hk5 hk
  go_enter Tryz.func4, Tryz.ntmps4
  go_wp2_with fail
  refine (HF.out _).mono ?_
  rintro e w1 ⟨rfl, c1⟩
  have HC1 := Lib.hid c1
  clear c1 HF
  have q3 : IntKind.u64.wrap (1073745920 + ((8 * k : Nat) : Int)) = ((1073745920 + 8 * k : Nat) : Int) := by rw [IntKind.wrap_u64]; omega
  cases swap with
  | false =>
    have hS := Sl.fresh (w1.alloc (.cells #[.int .i64 29, .int .i64 0, .int .i64 1, .int .i64 2, .int .i64 0] 40)) (icells [againI false]) 40 (size := 5) 1 rfl
    rw [World.size_alloc] at hS
    have k2 : Chg NoB w1 ((w1.alloc (.cells #[.int .i64 29, .int .i64 0, .int .i64 1, .int .i64 2, .int .i64 0] 40)).alloc (.cells #[.int .i64 29, .int .i64 0, .int .i64 1, .int .i64 2, .int .i64 0] 40)) := ((Chg.refl NoB w1).alloc _).alloc _
    have HMd := Lib.hid (made_any [againI false] _ _ hS (by show 1 ≤ 100000; omega))
    rw [again_l] at HMd
    have HK2 := Lib.hid k2
    clear hS k2
    go_wp2_with fail
    refine HMd.out.mono ?_
    rintro e w2 ⟨v2, rfl, L, cb, xb, rb, rfl, hS, hC, hL, hcb, hap, k3⟩
    have HMc : Hid (Mc w2 L (madeS [againI false]) cb (Cor.new 65536)) := Lib.hid ⟨hS, hC, hap⟩
    have HW2 := Lib.hid ((HC1.out.step HK2.out).step k3)
    have HLo : Hid (∀ j, Blks L cb j → w.heap.size ≤ j) := Lib.hid fun j hj => Nat.le_trans (HC1.out.step HK2.out).size (hj.elim (fun e => e ▸ hcb) (hL j))
    clear hS hC hL hcb hap k3 HMd
    have HS1 := Lib.hid (coreSet_any HMc.out.co 1 (1073745920 + 8 * k) (by have := HK5.out; omega))
    go_wp2_with fail
    refine HS1.out.mono ?_
    rintro e w3 ⟨rfl, h3, k3⟩
    have HM3 := Lib.hid (HMc.out.core h3 k3)
    have HW3 : Hid (Chg NoB w w3) := Lib.hid (HW2.out.trans k3 fun j hj e => absurd (HLo.out j (.inl e)) (by omega))
    clear h3 k3 HS1
    have HS2 := Lib.hid (coreSet_any HM3.out.co 2 v HV.out)
    go_wp2_with fail
    refine HS2.out.mono ?_
    rintro e w4 ⟨rfl, h4, k4⟩
    have HM4 := Lib.hid (HM3.out.core h4 k4)
    have HW4 : Hid (Chg NoB w w4) := Lib.hid (HW3.out.trans k4 fun j hj e => absurd (HLo.out j (.inl e)) (by omega))
    clear h4 k4 HS2
    have HS3 := Lib.hid (coreSet_any HM4.out.co 3 77 (by omega))
    go_wp2_with fail
    refine HS3.out.mono ?_
    rintro e w5 ⟨rfl, h5, k5⟩
    have HM5 : Hid (Mc w5 L (madeS [againI false]) cb (c3 (1073745920 + 8 * k) v)) := Lib.hid (HM4.out.core h5 k5)
    have HW5 : Hid (Chg NoB w w5) := Lib.hid (HW4.out.trans k5 fun j hj e => absurd (HLo.out j (.inl e)) (by omega))
    clear h5 k5 HS3 HMc HM3 HM4 HW2 HW3 HW4
    obtain ⟨c, hcd⟩ : ∃ c, c3 (1073745920 + 8 * k) v = c := ⟨_, rfl⟩
    have r1 : c.r 1 = 1073745920 + 8 * k := by rw [← hcd]; rfl
    have r2 : c.r 2 = v := by rw [← hcd]; rfl
    have r3 : c.r 3 = 77 := by rw [← hcd]; rfl
    have rr : c.run = 0 := by rw [← hcd]; rfl
    have rp : c.pc = 65536 := by rw [← hcd]; rfl
    rw [hcd] at HM5
    obtain ⟨b1, s2, u3, e1, S1, es, e2, x1, x2, sh2, fr2, g2⟩ := again_plain false HM.out rfl HK5.out HV.out r1 r2 rr rp
    obtain ⟨c', hc'⟩ : ∃ c' : Cor, { (if false = true then c.set 3 0 else c) with pc := 65540 } = c' := ⟨_, rfl⟩
    have HP3 : Hid (c'.pc = 65540) := Lib.hid (by rw [← hc'])
    have HP4 : Hid (c'.r 3 = 77) := Lib.hid (by rw [← hc']; first | rfl | exact r3)
    rw [hc'] at e2
    clear hc'
    have hM5 : Mc w5 L (mk3 made0S [againI false]) cb c := HM5.out
    have HT1 := Lib.hid (mcTry_any (X := nilCx) hM5 rr 0 x1 (by decide) (by decide))
    rw [e1] at HT1
    have HU1 : Hid (Calls Tryz.prog 16 #[.pointer (some ⟨L.pb, 0, none⟩)] w5 (RetW (.pointer (some ⟨L.ub, 0, none⟩)) fun w' => w' = w5)) := Lib.hid (sUnit_any hM5.sp)
    have HS1 := Lib.hid S1
    have HE2 := Lib.hid e2
    have HES := Lib.hid es
    have HX2 := Lib.hid x2
    have HSH2 := Lib.hid sh2
    have HFR2 := Lib.hid fr2
    have HG2 := Lib.hid g2
    have HR3 := Lib.hid r3
    have HRR := Lib.hid rr
    have HRP := Lib.hid rp
    have HRL : Hid (∀ j, c.r j < 18446744073709551616) := Lib.hid hM5.co.lt
    clear HM5 hM5 hcd r1 r2 r3 e1 e2 es x1 x2 sh2 fr2 g2 S1 rr rp HM
    go_wp2_with fail
    refine HU1.out.mono ?_
    rintro e wu ⟨rfl, hwu⟩
    subst hwu
    go_wp2_with fail
    refine HT1.out.mono ?_
    rintro e w6 ⟨rfl, L6, hE6, hM6, k6⟩
    have HM6 := Lib.hid hM6
    have HW6 : Hid (Chg NoB w w6) := Lib.hid (HW5.out.trans k6 fun j hj e => absurd (HLo.out j e) (by omega))
    have HPB6 : Hid (L6.pb = L.pb) := Lib.hid hE6.1
    have HLo6 : Hid (∀ j, Blks L6 cb j → w.heap.size ≤ j) := Lib.hid fun j hj => hj.elim (fun e => HLo.out j (.inl e)) fun e => (hE6.2.2 j e).elim (fun e => HLo.out j (.inr e)) fun e => by have := HW5.out.size; omega
    have HPc : Hid (∀ w', Chg NoB w6 w' → Calls Tryz.prog 19 #[.pointer (some ⟨cb, 0, none⟩)] w' (RetW (.int .u64 65536) fun w'' => w'' = w')) := Lib.hid fun w' kk => by
      have := corePc_any (hM6.co.chg kk id)
      rw [HRP.out] at this
      exact this
    have HRg : Hid (∀ w', Chg NoB w6 w' → Calls Tryz.prog 18 #[.pointer (some ⟨cb, 0, none⟩), .int .i64 3] w' (RetW (.int .u64 77) fun w'' => w'' = w')) := Lib.hid fun w' kk => by
      have := coreReg_any (hM6.co.chg kk id) 3
      rw [if_pos (by decide), show c.r (3 : Int).toNat = 77 from HR3.out] at this
      exact this
    clear hE6 hM6 k6 HT1 HU1
    simp only [DidP.agg, DidP.cells]
    generalize againI false = ii at *
    obtain ⟨io, id', is, it, im⟩ := ii
    have k7 : Chg NoB w6 (w6.alloc (.cells #[.bool false, .int .i64 io, .int .i64 id', .int .i64 is, .int .i64 it, .int .i64 im, .int .u64 65536, .int .i64 15, .int .i64 2, .int .u64 (1073745920 + 8 * (k : Int)), .int .i64 8, .int .u64 0, .int .u64 0] 43)) := (Chg.refl NoB w6).alloc _
    go_wp2_with fail
    refine (HPc.out _ k7).mono ?_
    rintro e wa ⟨rfl, hwa⟩
    subst hwa
    go_wp2_with fail
    refine (HRg.out _ k7).mono ?_
    rintro e wa ⟨rfl, hwa⟩
    subst hwa
    go_wp2_with fail
    generalize (w6.alloc (.cells #[.bool false, .int .i64 io, .int .i64 id', .int .i64 is, .int .i64 it, .int .i64 im, .int .u64 65536, .int .i64 15, .int .i64 2, .int .u64 (1073745920 + 8 * (k : Int)), .int .i64 8, .int .u64 0, .int .u64 0] 43)) = w7 at *
    have HM7 := Lib.hid (HM6.out.chg0 k7)
    have HW7 := Lib.hid (HW6.out.step k7)
    have HSt : Hid (Calls Tryz.prog 21 #[.pointer (some ⟨L.pb, 0, none⟩), .int .i64 1, .int .i64 2] w7 (RetW (.int .i64 0) fun w' => ∃ L' : Pl, Ext L6 L' w7 ∧ SpAt w' L' s2 ∧ Chg L6.All w7 w')) := Lib.hid (by
      have := set_any HM7.out.sp 1 2 HS1.out
      rw [HPB6.out] at this
      rw [← HES.out]
      exact this)
    clear k7 HPc HRg
    refine HSt.out.mono ?_
    rintro e w8 ⟨rfl, L8, hE8, hS8, k8⟩
    have HM8 : Hid (Mc w8 L8 s2 cb c) := Lib.hid ⟨hS8, HM7.out.co.chg k8 HM7.out.ap, fun e => (hE8.2.2 cb e).elim HM7.out.ap fun e => by have := HM7.out.co.blk.lt; omega⟩
    have HW8 : Hid (Chg NoB w w8) := Lib.hid (HW7.out.trans k8 fun j hj e => absurd (HLo6.out j (.inr e)) (by omega))
    have HPB8 : Hid (L8.pb = L.pb) := Lib.hid (hE8.1.trans HPB6.out)
    have HLo8 : Hid (∀ j, Blks L8 cb j → w.heap.size ≤ j) := Lib.hid fun j hj => hj.elim (fun e => HLo6.out j (.inl e)) fun e => (hE8.2.2 j e).elim (fun e => HLo6.out j (.inr e)) fun e => by have := HW7.out.size; omega
    have HU8 : Hid (Calls Tryz.prog 16 #[.pointer (some ⟨L.pb, 0, none⟩)] w8 (RetW (.pointer (some ⟨L8.ub, 0, none⟩)) fun w' => w' = w8)) := Lib.hid (by
      have := sUnit_any hS8
      rw [HPB8.out] at this
      exact this)
    have HT8 := Lib.hid (mcTry_any (X := nilCx) HM8.out HRR.out 0 HX2.out (by decide) (by decide))
    rw [HE2.out] at HT8
    have p3 := HP3.out
    have p4 := HP4.out
    clear hE8 hS8 k8 HSt
    go_wp2_with fail
    refine HU8.out.mono ?_
    rintro e wu ⟨rfl, hwu⟩
    subst hwu
    go_wp2_with fail
    refine HT8.out.mono ?_
    rintro e w9 ⟨rfl, L9, hE9, hM9, k9⟩
    have HM9 : Hid (Mc w9 L9 { s2 with u := u3 } cb c') := Lib.hid hM9
    have HW9 : Hid (Chg NoB w w9) := Lib.hid (HW8.out.trans k9 fun j hj e => absurd (HLo8.out j e) (by omega))
    have HPB9 : Hid (L9.pb = L.pb) := Lib.hid (hE9.1.trans HPB8.out)
    have HPc : Hid (∀ w', Chg NoB w9 w' → Calls Tryz.prog 19 #[.pointer (some ⟨cb, 0, none⟩)] w' (RetW (.int .u64 65540) fun w'' => w'' = w')) := Lib.hid fun w' kk => by
      have := corePc_any (hM9.co.chg kk id)
      rw [p3] at this
      exact this
    have HRg : Hid (∀ w', Chg NoB w9 w' → Calls Tryz.prog 18 #[.pointer (some ⟨cb, 0, none⟩), .int .i64 3] w' (RetW (.int .u64 77) fun w'' => w'' = w')) := Lib.hid fun w' kk => by
      have := coreReg_any (hM9.co.chg kk id) 3
      rw [if_pos (by decide), show c'.r (3 : Int).toNat = 77 from p4] at this
      exact this
    clear hE9 hM9 k9 HT8 HU8 p3 p4
    simp only [DidP.agg, DidP.cells]
    have k10 : Chg NoB w9 (w9.alloc (.cells #[.bool true, .int .i64 io, .int .i64 id', .int .i64 is, .int .i64 it, .int .i64 im, .int .u64 65536, .int .i64 (-1), .int .i64 2, .int .u64 (1073745920 + 8 * (k : Int)), .int .i64 8, .int .u64 0, .int .u64 v] 43)) := (Chg.refl NoB w9).alloc _
    have b10 := Blk.new w9 #[.bool true, .int .i64 io, .int .i64 id', .int .i64 is, .int .i64 it, .int .i64 im, .int .u64 65536, .int .i64 (-1), .int .i64 2, .int .u64 (1073745920 + 8 * (k : Int)), .int .i64 8, .int .u64 0, .int .u64 v] 43
    go_wp2_with fail
    generalize (w9.alloc (.cells #[.bool true, .int .i64 io, .int .i64 id', .int .i64 is, .int .i64 it, .int .i64 im, .int .u64 65536, .int .i64 (-1), .int .i64 2, .int .u64 (1073745920 + 8 * (k : Int)), .int .i64 8, .int .u64 0, .int .u64 v] 43)) = w10 at *
    obtain ⟨d2, hd2⟩ : ∃ d, w9.heap.size = d := ⟨_, rfl⟩
    rw [hd2] at b10
    simp only [hd2]
    have HDa := Lib.hid (data_any (HM9.out.sp.chg0 k10) 1 (by decide) (by show 1 < s2.shape.shared; rw [HSH2.out]; decide) HFR2.out)
    rw [HPB9.out] at HDa
    have HBy : Hid (ByOk (dataF { s2 with u := u3 } 1)) := Lib.hid (dataF_ok HM9.out.sp.mu.mem.ok)
    refine HDa.out.mono ?_
    rintro e w11 ⟨vd, rfl, hO, k11⟩
    have HGt := Lib.hid (rGet8_any HBy.out hO.sl (8 * k) (by have := HK5.out; omega))
    rw [HG2.out] at HGt
    have HW11 := Lib.hid ((HW9.out.step k10).step k11)
    have HK11 := Lib.hid (k10.step k11)
    have HB11 := Lib.hid (k11.blk0 b10)
    have q4 : IntKind.i64.wrap (8 * (k : Int)) = ((8 * k : Nat) : Int) := by
      have := HK5.out
      rw [IntWalk.i64_in _ (by omega)]
      omega
    clear hd2 b10 k10 k11 hO HDa HBy
    go_wp2_with fail
    refine HGt.out.mono ?_
    rintro e w12 ⟨rfl, k12⟩
    have HK12 := Lib.hid (HK11.out.step k12)
    have HW12 := Lib.hid (HW11.out.step k12)
    have g := (k12.blk0 HB11.out).cell
    have gl := (k12.blk0 HB11.out).lt
    clear k12
    go_wp2_with fail
    refine (HPc.out _ HK12.out).mono ?_
    rintro e wa ⟨rfl, hwa⟩
    subst hwa
    go_wp2_with fail
    refine (HRg.out _ HK12.out).mono ?_
    rintro e wa ⟨rfl, hwa⟩
    subst hwa
    go_wp2_with fail
    go_ret
    exact ⟨rfl, HW12.out⟩
  | true =>
    have hS := Sl.fresh (w1.alloc (.cells #[.int .i64 31, .int .i64 3, .int .i64 1, .int .i64 2, .int .i64 0] 40)) (icells [againI true]) 40 (size := 5) 1 rfl
    rw [World.size_alloc] at hS
    have k2 : Chg NoB w1 ((w1.alloc (.cells #[.int .i64 31, .int .i64 3, .int .i64 1, .int .i64 2, .int .i64 0] 40)).alloc (.cells #[.int .i64 31, .int .i64 3, .int .i64 1, .int .i64 2, .int .i64 0] 40)) := ((Chg.refl NoB w1).alloc _).alloc _
    have HMd := Lib.hid (made_any [againI true] _ _ hS (by show 1 ≤ 100000; omega))
    rw [again_l] at HMd
    have HK2 := Lib.hid k2
    clear hS k2
    go_wp2_with fail
    refine HMd.out.mono ?_
    rintro e w2 ⟨v2, rfl, L, cb, xb, rb, rfl, hS, hC, hL, hcb, hap, k3⟩
    have HMc : Hid (Mc w2 L (madeS [againI true]) cb (Cor.new 65536)) := Lib.hid ⟨hS, hC, hap⟩
    have HW2 := Lib.hid ((HC1.out.step HK2.out).step k3)
    have HLo : Hid (∀ j, Blks L cb j → w.heap.size ≤ j) := Lib.hid fun j hj => Nat.le_trans (HC1.out.step HK2.out).size (hj.elim (fun e => e ▸ hcb) (hL j))
    clear hS hC hL hcb hap k3 HMd
    have HS1 := Lib.hid (coreSet_any HMc.out.co 1 (1073745920 + 8 * k) (by have := HK5.out; omega))
    go_wp2_with fail
    refine HS1.out.mono ?_
    rintro e w3 ⟨rfl, h3, k3⟩
    have HM3 := Lib.hid (HMc.out.core h3 k3)
    have HW3 : Hid (Chg NoB w w3) := Lib.hid (HW2.out.trans k3 fun j hj e => absurd (HLo.out j (.inl e)) (by omega))
    clear h3 k3 HS1
    have HS2 := Lib.hid (coreSet_any HM3.out.co 2 v HV.out)
    go_wp2_with fail
    refine HS2.out.mono ?_
    rintro e w4 ⟨rfl, h4, k4⟩
    have HM4 := Lib.hid (HM3.out.core h4 k4)
    have HW4 : Hid (Chg NoB w w4) := Lib.hid (HW3.out.trans k4 fun j hj e => absurd (HLo.out j (.inl e)) (by omega))
    clear h4 k4 HS2
    have HS3 := Lib.hid (coreSet_any HM4.out.co 3 77 (by omega))
    go_wp2_with fail
    refine HS3.out.mono ?_
    rintro e w5 ⟨rfl, h5, k5⟩
    have HM5 : Hid (Mc w5 L (madeS [againI true]) cb (c3 (1073745920 + 8 * k) v)) := Lib.hid (HM4.out.core h5 k5)
    have HW5 : Hid (Chg NoB w w5) := Lib.hid (HW4.out.trans k5 fun j hj e => absurd (HLo.out j (.inl e)) (by omega))
    clear h5 k5 HS3 HMc HM3 HM4 HW2 HW3 HW4
    obtain ⟨c, hcd⟩ : ∃ c, c3 (1073745920 + 8 * k) v = c := ⟨_, rfl⟩
    have r1 : c.r 1 = 1073745920 + 8 * k := by rw [← hcd]; rfl
    have r2 : c.r 2 = v := by rw [← hcd]; rfl
    have r3 : c.r 3 = 77 := by rw [← hcd]; rfl
    have rr : c.run = 0 := by rw [← hcd]; rfl
    have rp : c.pc = 65536 := by rw [← hcd]; rfl
    rw [hcd] at HM5
    obtain ⟨b1, s2, u3, e1, S1, es, e2, x1, x2, sh2, fr2, g2⟩ := again_plain true HM.out rfl HK5.out HV.out r1 r2 rr rp
    obtain ⟨c', hc'⟩ : ∃ c' : Cor, { (if true = true then c.set 3 0 else c) with pc := 65540 } = c' := ⟨_, rfl⟩
    have HP3 : Hid (c'.pc = 65540) := Lib.hid (by rw [← hc'])
    have HP4 : Hid (c'.r 3 = 0) := Lib.hid (by rw [← hc']; first | rfl | exact r3)
    rw [hc'] at e2
    clear hc'
    have hM5 : Mc w5 L (mk3 made0S [againI true]) cb c := HM5.out
    have HT1 := Lib.hid (mcTry_any (X := nilCx) hM5 rr 0 x1 (by decide) (by decide))
    rw [e1] at HT1
    have HU1 : Hid (Calls Tryz.prog 16 #[.pointer (some ⟨L.pb, 0, none⟩)] w5 (RetW (.pointer (some ⟨L.ub, 0, none⟩)) fun w' => w' = w5)) := Lib.hid (sUnit_any hM5.sp)
    have HS1 := Lib.hid S1
    have HE2 := Lib.hid e2
    have HES := Lib.hid es
    have HX2 := Lib.hid x2
    have HSH2 := Lib.hid sh2
    have HFR2 := Lib.hid fr2
    have HG2 := Lib.hid g2
    have HR3 := Lib.hid r3
    have HRR := Lib.hid rr
    have HRP := Lib.hid rp
    have HRL : Hid (∀ j, c.r j < 18446744073709551616) := Lib.hid hM5.co.lt
    clear HM5 hM5 hcd r1 r2 r3 e1 e2 es x1 x2 sh2 fr2 g2 S1 rr rp HM
    go_wp2_with fail
    refine HU1.out.mono ?_
    rintro e wu ⟨rfl, hwu⟩
    subst hwu
    go_wp2_with fail
    refine HT1.out.mono ?_
    rintro e w6 ⟨rfl, L6, hE6, hM6, k6⟩
    have HM6 := Lib.hid hM6
    have HW6 : Hid (Chg NoB w w6) := Lib.hid (HW5.out.trans k6 fun j hj e => absurd (HLo.out j e) (by omega))
    have HPB6 : Hid (L6.pb = L.pb) := Lib.hid hE6.1
    have HLo6 : Hid (∀ j, Blks L6 cb j → w.heap.size ≤ j) := Lib.hid fun j hj => hj.elim (fun e => HLo.out j (.inl e)) fun e => (hE6.2.2 j e).elim (fun e => HLo.out j (.inr e)) fun e => by have := HW5.out.size; omega
    have HPc : Hid (∀ w', Chg NoB w6 w' → Calls Tryz.prog 19 #[.pointer (some ⟨cb, 0, none⟩)] w' (RetW (.int .u64 65536) fun w'' => w'' = w')) := Lib.hid fun w' kk => by
      have := corePc_any (hM6.co.chg kk id)
      rw [HRP.out] at this
      exact this
    have HRg : Hid (∀ w', Chg NoB w6 w' → Calls Tryz.prog 18 #[.pointer (some ⟨cb, 0, none⟩), .int .i64 3] w' (RetW (.int .u64 77) fun w'' => w'' = w')) := Lib.hid fun w' kk => by
      have := coreReg_any (hM6.co.chg kk id) 3
      rw [if_pos (by decide), show c.r (3 : Int).toNat = 77 from HR3.out] at this
      exact this
    clear hE6 hM6 k6 HT1 HU1
    simp only [DidP.agg, DidP.cells]
    generalize againI true = ii at *
    obtain ⟨io, id', is, it, im⟩ := ii
    have k7 : Chg NoB w6 (w6.alloc (.cells #[.bool false, .int .i64 io, .int .i64 id', .int .i64 is, .int .i64 it, .int .i64 im, .int .u64 65536, .int .i64 15, .int .i64 2, .int .u64 (1073745920 + 8 * (k : Int)), .int .i64 8, .int .u64 0, .int .u64 0] 43)) := (Chg.refl NoB w6).alloc _
    go_wp2_with fail
    refine (HPc.out _ k7).mono ?_
    rintro e wa ⟨rfl, hwa⟩
    subst hwa
    go_wp2_with fail
    refine (HRg.out _ k7).mono ?_
    rintro e wa ⟨rfl, hwa⟩
    subst hwa
    go_wp2_with fail
    generalize (w6.alloc (.cells #[.bool false, .int .i64 io, .int .i64 id', .int .i64 is, .int .i64 it, .int .i64 im, .int .u64 65536, .int .i64 15, .int .i64 2, .int .u64 (1073745920 + 8 * (k : Int)), .int .i64 8, .int .u64 0, .int .u64 0] 43)) = w7 at *
    have HM7 := Lib.hid (HM6.out.chg0 k7)
    have HW7 := Lib.hid (HW6.out.step k7)
    have HSt : Hid (Calls Tryz.prog 21 #[.pointer (some ⟨L.pb, 0, none⟩), .int .i64 1, .int .i64 2] w7 (RetW (.int .i64 0) fun w' => ∃ L' : Pl, Ext L6 L' w7 ∧ SpAt w' L' s2 ∧ Chg L6.All w7 w')) := Lib.hid (by
      have := set_any HM7.out.sp 1 2 HS1.out
      rw [HPB6.out] at this
      rw [← HES.out]
      exact this)
    clear k7 HPc HRg
    refine HSt.out.mono ?_
    rintro e w8 ⟨rfl, L8, hE8, hS8, k8⟩
    have HM8 : Hid (Mc w8 L8 s2 cb c) := Lib.hid ⟨hS8, HM7.out.co.chg k8 HM7.out.ap, fun e => (hE8.2.2 cb e).elim HM7.out.ap fun e => by have := HM7.out.co.blk.lt; omega⟩
    have HW8 : Hid (Chg NoB w w8) := Lib.hid (HW7.out.trans k8 fun j hj e => absurd (HLo6.out j (.inr e)) (by omega))
    have HPB8 : Hid (L8.pb = L.pb) := Lib.hid (hE8.1.trans HPB6.out)
    have HLo8 : Hid (∀ j, Blks L8 cb j → w.heap.size ≤ j) := Lib.hid fun j hj => hj.elim (fun e => HLo6.out j (.inl e)) fun e => (hE8.2.2 j e).elim (fun e => HLo6.out j (.inr e)) fun e => by have := HW7.out.size; omega
    have HU8 : Hid (Calls Tryz.prog 16 #[.pointer (some ⟨L.pb, 0, none⟩)] w8 (RetW (.pointer (some ⟨L8.ub, 0, none⟩)) fun w' => w' = w8)) := Lib.hid (by
      have := sUnit_any hS8
      rw [HPB8.out] at this
      exact this)
    have HT8 := Lib.hid (mcTry_any (X := nilCx) HM8.out HRR.out 0 HX2.out (by decide) (by decide))
    rw [HE2.out] at HT8
    have p3 := HP3.out
    have p4 := HP4.out
    clear hE8 hS8 k8 HSt
    go_wp2_with fail
    refine HU8.out.mono ?_
    rintro e wu ⟨rfl, hwu⟩
    subst hwu
    go_wp2_with fail
    refine HT8.out.mono ?_
    rintro e w9 ⟨rfl, L9, hE9, hM9, k9⟩
    have HM9 : Hid (Mc w9 L9 { s2 with u := u3 } cb c') := Lib.hid hM9
    have HW9 : Hid (Chg NoB w w9) := Lib.hid (HW8.out.trans k9 fun j hj e => absurd (HLo8.out j e) (by omega))
    have HPB9 : Hid (L9.pb = L.pb) := Lib.hid (hE9.1.trans HPB8.out)
    have HPc : Hid (∀ w', Chg NoB w9 w' → Calls Tryz.prog 19 #[.pointer (some ⟨cb, 0, none⟩)] w' (RetW (.int .u64 65540) fun w'' => w'' = w')) := Lib.hid fun w' kk => by
      have := corePc_any (hM9.co.chg kk id)
      rw [p3] at this
      exact this
    have HRg : Hid (∀ w', Chg NoB w9 w' → Calls Tryz.prog 18 #[.pointer (some ⟨cb, 0, none⟩), .int .i64 3] w' (RetW (.int .u64 0) fun w'' => w'' = w')) := Lib.hid fun w' kk => by
      have := coreReg_any (hM9.co.chg kk id) 3
      rw [if_pos (by decide), show c'.r (3 : Int).toNat = 0 from p4] at this
      exact this
    clear hE9 hM9 k9 HT8 HU8 p3 p4
    simp only [DidP.agg, DidP.cells]
    have k10 : Chg NoB w9 (w9.alloc (.cells #[.bool true, .int .i64 io, .int .i64 id', .int .i64 is, .int .i64 it, .int .i64 im, .int .u64 65536, .int .i64 (-1), .int .i64 2, .int .u64 (1073745920 + 8 * (k : Int)), .int .i64 8, .int .u64 0, .int .u64 v] 43)) := (Chg.refl NoB w9).alloc _
    have b10 := Blk.new w9 #[.bool true, .int .i64 io, .int .i64 id', .int .i64 is, .int .i64 it, .int .i64 im, .int .u64 65536, .int .i64 (-1), .int .i64 2, .int .u64 (1073745920 + 8 * (k : Int)), .int .i64 8, .int .u64 0, .int .u64 v] 43
    go_wp2_with fail
    generalize (w9.alloc (.cells #[.bool true, .int .i64 io, .int .i64 id', .int .i64 is, .int .i64 it, .int .i64 im, .int .u64 65536, .int .i64 (-1), .int .i64 2, .int .u64 (1073745920 + 8 * (k : Int)), .int .i64 8, .int .u64 0, .int .u64 v] 43)) = w10 at *
    obtain ⟨d2, hd2⟩ : ∃ d, w9.heap.size = d := ⟨_, rfl⟩
    rw [hd2] at b10
    simp only [hd2]
    have HDa := Lib.hid (data_any (HM9.out.sp.chg0 k10) 1 (by decide) (by show 1 < s2.shape.shared; rw [HSH2.out]; decide) HFR2.out)
    rw [HPB9.out] at HDa
    have HBy : Hid (ByOk (dataF { s2 with u := u3 } 1)) := Lib.hid (dataF_ok HM9.out.sp.mu.mem.ok)
    refine HDa.out.mono ?_
    rintro e w11 ⟨vd, rfl, hO, k11⟩
    have HGt := Lib.hid (rGet8_any HBy.out hO.sl (8 * k) (by have := HK5.out; omega))
    rw [HG2.out] at HGt
    have HW11 := Lib.hid ((HW9.out.step k10).step k11)
    have HK11 := Lib.hid (k10.step k11)
    have HB11 := Lib.hid (k11.blk0 b10)
    have q4 : IntKind.i64.wrap (8 * (k : Int)) = ((8 * k : Nat) : Int) := by
      have := HK5.out
      rw [IntWalk.i64_in _ (by omega)]
      omega
    clear hd2 b10 k10 k11 hO HDa HBy
    go_wp2_with fail
    refine HGt.out.mono ?_
    rintro e w12 ⟨rfl, k12⟩
    have HK12 := Lib.hid (HK11.out.step k12)
    have HW12 := Lib.hid (HW11.out.step k12)
    have g := (k12.blk0 HB11.out).cell
    have gl := (k12.blk0 HB11.out).lt
    clear k12
    go_wp2_with fail
    refine (HPc.out _ HK12.out).mono ?_
    rintro e wa ⟨rfl, hwa⟩
    subst hwa
    go_wp2_with fail
    refine (HRg.out _ HK12.out).mono ?_
    rintro e wa ⟨rfl, hwa⟩
    subst hwa
    go_wp2_with fail
    go_ret
    exact ⟨rfl, HW12.out⟩
end Go.Proofs.YthceikgkaellkaaGreat
