/- How programs run: FlowRuns. No condition. -/
import Derived.Test.YtapmojfebljjnaaGreatHy
import Derived.Test.YtapmojfebljjnaaGreatHo
import Derived.Test.YtapmojfebljjnaaGreatHx
set_option linter.unusedVariables false
set_option linter.unusedSimpArgs false
namespace Go.Proofs.YtapmojfebljjnaaGreat
open Go.RowKit Go.RR
theorem sl_spot1 {w : World} {S : Nat → Prop} {p : Option Addr} {n c m : Nat} {us : List Value} (h : Sl w S 1 (.slice p n c) m us) {k : Nat} {u : Value} (hk : us[k]? = some u) : n = m ∧ n ≤ c ∧ ∃ g of, p = some ⟨g, of, none⟩ ∧ g < w.heap.size ∧ w.cell? ⟨g, of + k, none⟩ = some u := by
  obtain ⟨h1, p', c', e, hc, hs⟩ := h
  cases e
  obtain ⟨g, of, hp, -, hg, hcell⟩ := hs (by have := (List.getElem?_eq_some_iff.1 hk).1; omega)
  exact ⟨rfl, hc, g, of, hp, hg, hcell k _ hk⟩
theorem progL_all {l : List In} (hr : ∀ i ∈ l, rightB i = true) (hl : l.length ≤ 40) : progL l = l := by
  unfold progL
  rw [List.take_of_length_le (by omega), List.filter_eq_self.2 fun i hi => hr i hi]
/-- The core and its space, in the main loop: B and E the bounds of what lies beside them. -/
structure Go31 (w : World) (l : List In) (m : Memo) (cb pb A B E j : Nat) (c : Cor) (L : Pl) (s : Spc) : Prop where
  mc : Mc w L s cb c
  pb : L.pb = pb
  lo : ∀ k, Blks L cb k → A ≤ k ∧ (k < B ∨ E ≤ k)
  run : RunIn s l
  c0 : c.run = 0
  came : Came l m c.pc j
set_option maxHeartbeats 4000000 in
set_option maxRecDepth 100000 in
theorem flowRuns_any {w : World} (S : Nat → Prop) (v : Value) (l : List In) (hs : Sl w S 5 v l.length (icells l)) (hl : l.length ≤ 9223372036854775807) (SR : Nat → Prop) (rp : Option Addr) (rc : Nat) (rs : List Nat) (hr : Sl w SR 1 (.slice rp rs.length rc) rs.length (rs.map fun n : Nat => Value.int .u64 n)) (hrb : ∀ x ∈ rs, x < 18446744073709551616) (hrl : rs.length ≤ 9223372036854775807) : Calls Tryz.prog 3 #[v, .slice rp rs.length rc] w (RetW (.bool true) fun w' => Chg NoB w w') := by
  have HF := Lib.hid (fun w' => first31_any w')
  have HS := Lib.hid hs
  have HL := Lib.hid hl
  have HRS := Lib.hid hr
  have HRB := Lib.hid hrb
  have HRL := Lib.hid hrl
  obtain ⟨vp, vc, rfl⟩ := hs.form
  clear hs hl hr hrb hrl
  go_enter Tryz.func3, Tryz.ntmps3
  go_wp2_with fail
  with_reducible refine (HF.out _).mono ?_
  rintro e w1 ⟨rfl, C1⟩
  have HC1 := Lib.hid C1
  clear C1
  go_wp2_with fail
  with_reducible refine (right31_any _ _ l _ (HS.out.chg0 HC1.out) HL.out).mono ?_
  rintro e w2 ⟨rfl, C2⟩
  have HC2 := Lib.hid (HC1.out.step C2)
  clear C2
  cases hA : askB l
  · clear hA
    go_wp2_with fail
    go_ret
    exact ⟨rfl, HC2.out⟩
  · obtain ⟨h40, hr⟩ := askB_in hA
    have HR := Lib.hid hr
    have H40 := Lib.hid h40
    clear hA hr
    go_wp2_with fail
    with_reducible refine (made_any l _ _ (HS.out.chg0 HC2.out) (by omega)).mono ?_
    rintro e w3 ⟨v3, rfl, L, cb, xb, rb, rfl, hS, hC, hL, hcb, hap, k3⟩
    rw [progL_all HR.out H40.out] at hS
    have hM := made_ok (p := l) HR.out (by omega)
    have hRI : RunIn (madeS l) l := ⟨hM.all.inv, hM.all.prog⟩
    have HMc : Hid (Mc w3 L (madeS l) cb (Cor.new 65536)) := Lib.hid ⟨hS, hC, hap⟩
    have HRI := Lib.hid hRI
    have HLo : Hid (∀ k, Blks L cb k → w2.heap.size ≤ k) := Lib.hid fun k hk => hk.elim (fun e => e ▸ hcb) (hL k)
    have HC3 := Lib.hid (HC2.out.step k3)
    generalize madeS l = s at *
    clear hS hC hL hcb hap k3 hM hRI
    go_wp2_with fail
    go_loopg [31] rs.length (fun k iv wr => ∃ (i : Nat) (c : Cor), i + k = rs.length ∧ iv = .int .i64 i ∧ Mc wr L s cb c ∧ c.pc = 65536 ∧ c.run = 0 ∧ Chg (fun k => k = cb) w3 wr)
    case atStart => exact ⟨0, Cor.new 65536, by omega, rfl, HMc.out, rfl, rfl, Chg.refl _ _⟩
    case round =>
      obtain ⟨i, c, hik, rfl, hM, hpc, hrun, hX⟩ := hrel
      have HIK := Lib.hid hik
      have HM := Lib.hid hM
      have HP := Lib.hid (And.intro hpc hrun)
      have HX := Lib.hid hX
      have hXX : Chg NoB w wr := HC3.out.trans hX fun k hk e => by have e : k = cb := e; have := HLo.out cb (.inl rfl); have := HC2.out.size; omega
      have HXX := Lib.hid hXX
      by_cases hi : i < rs.length
      · have t1 : decide ((i : Int) < rs.length) = true := decide_eq_true (by omega)
        have t1' : decide (i < rs.length) = true := decide_eq_true hi
        obtain ⟨-, hcc, g, of, rfl, hg, hcell⟩ := sl_spot1 (HRS.out.chg0 hXX) (k := i) (u := .int .u64 (rs[i] : Nat)) (by rw [List.getElem?_map, List.getElem?_eq_getElem hi]; rfl)
        have hv := HRB.out _ (List.getElem_mem hi)
        obtain ⟨rv, hrv⟩ : ∃ rv, rs[i] = rv := ⟨_, rfl⟩
        rw [hrv] at hcell hv
        have q0 := HRL.out
        have q1 : IntKind.i64.wrap (i : Int) = i := IntWalk.i64_in _ (by omega)
        have q2 : IntKind.i64.wrap ((i : Int) + 1) = ((i + 1 : Nat) : Int) := IntWalk.i64_in _ (by omega)
        have n2 : (i : Int).toNat = i := Int.toNat_natCast i
        have n3 : (0 : Int) ≤ i := by omega
        have n4 : (i : Int) < rs.length := by omega
        have HSt := Lib.hid (coreSet_any HM.out.co i rv hv)
        have HIL := Lib.hid hi
        clear hik hM hpc hrun hX hXX hi hv hrv q0
        by_cases h16 : i < 16
        · have t2 : decide ((i : Int) < 16) = true := decide_eq_true (by omega)
          have t2' : decide (i < 16) = true := decide_eq_true h16
          clear h16
          go_wp2_with fail
          with_reducible refine HSt.out.mono ?_
          rintro e w5 ⟨rfl, h5, c5⟩
          have HM5 := Lib.hid (HM.out.core h5 c5)
          have HX5 := Lib.hid (HX.out.step c5)
          clear h5 c5 hcell hg
          go_wp2_with fail
          go_roundg (rs.length - (i + 1))
          case rel => exact ⟨i + 1, c.set i rv, by have := HIK.out; have := HIL.out; omega, by go_num, HM5.out, (set_pc' c i rv).trans HP.out.1, (set_run c i rv).trans HP.out.2, HX5.out⟩
          case measure => have := HIL.out; have := HIK.out; omega
        · have t2 : decide ((i : Int) < 16) = false := decide_eq_false (by omega)
          have t2' : decide (i < 16) = false := decide_eq_false h16
          clear h16
          go_wp2_with fail
          go_roundg (rs.length - (i + 1))
          case rel => exact ⟨i + 1, c, by have := HIK.out; have := HIL.out; omega, by go_num, HM.out, HP.out.1, HP.out.2, HX.out⟩
          case measure => have := HIL.out; have := HIK.out; omega
      · obtain rfl : i = rs.length := by omega
        have t1 : decide ((rs.length : Int) < rs.length) = false := decide_eq_false (by omega)
        have t1' : decide (rs.length < rs.length) = false := decide_eq_false hi
        clear hik hM hpc hrun hX hXX hi
        rename World => wE
        go_wp2_with fail
        with_reducible refine (reach_any _ _ l _ (HS.out.chg0 HXX.out) h40 HR.out).mono ?_
        rintro e w4 ⟨y4, rfl, I4, C4⟩
        have HE := Lib.hid (fromF_take_len l [0])
        obtain ⟨p4, c4, rfl⟩ := I4.form
        rw [HE.out] at I4 ⊢
        have HC4 := Lib.hid (HXX.out.step C4)
        have HM4 := Lib.hid (HM.out.chg0 C4)
        have HZ4 := Lib.hid C4.size
        have HI4 := Lib.hid I4
        clear I4 C4
        go_wp2_with fail
        with_reducible refine (flongest_any _ _ l _ (HS.out.chg0 HC4.out) h40 HR.out).mono ?_
        rintro e w5 ⟨rfl, C5⟩
        have HC5 := Lib.hid (HC4.out.step C5)
        have HM5 := Lib.hid (HM4.out.chg0 C5)
        have HI5 := Lib.hid (HI4.out.chg0 C5)
        have HZ5 := Lib.hid C5.size
        clear C5
        go_wp2_with fail
        obtain ⟨m, hm0, hm⟩ := came_start l
        have HM0 := Lib.hid hm0
        have HMM := Lib.hid hm
        have HLB : Hid (∀ k, Blks L cb k → k < wE.heap.size) := Lib.hid fun k hk => hk.elim (fun e => e ▸ HM.out.co.blk.lt) (HM.out.sp.lt k)
        clear hm0 hm
        go_loopg [14, 50] 150 (fun k dv iv wx => ∃ (j : Nat) (c : Cor) (L' : Pl) (s' : Spc), j + k = 150 ∧ dv = .int .i64 j ∧ iv = .int .i64 j ∧ Go31 wx l m cb L.pb w.heap.size wE.heap.size w5.heap.size j c L' s' ∧ Chg (fun k => w.heap.size ≤ k ∧ (k < wE.heap.size ∨ w5.heap.size ≤ k)) w5 wx)
        case atStart => exact ⟨0, c, L, s, by omega, rfl, rfl, ⟨HM5.out, rfl, fun k hk => ⟨by have := HLo.out k hk; have := HC2.out.size; omega, .inl (HLB.out k hk)⟩, HRI.out, HP.out.2, by rw [HP.out.1]; exact HM0.out⟩, Chg.refl _ _⟩
        case round =>
          obtain ⟨j, c1, L1, s1, hjk, rfl, rfl, hG, hcx⟩ := hrel
          have HJK := Lib.hid hjk
          have HG := Lib.hid hG
          have HCX := Lib.hid hcx
          have HFX : Hid (Chg NoB w wr) := Lib.hid (HC5.out.trans hcx fun k hk e => by omega)
          by_cases hj : j < 150
          · have t1 : decide ((j : Int) < 150) = true := decide_eq_true (by omega)
            have t1' : decide (j < 150) = true := decide_eq_true hj
            have q9 : IntKind.i64.wrap ((j : Int) + 1) = ((j + 1 : Nat) : Int) := IntWalk.i64_in _ (by omega)
            have HLE := Lib.hid hG.came.le
            obtain ⟨pc, hpc⟩ : ∃ pc, c1.pc = pc := ⟨_, rfl⟩
            have hPc := corePc_any hG.mc.co
            have hat := hG.came.at'
            rw [hpc] at hPc hat
            have HPc := Lib.hid hPc
            have HPE := Lib.hid hpc
            clear hjk hG hcx hPc hpc
            rcases hat with hlow | ⟨p, rfl, hp5, hpr⟩
            · have t2 : decide ((pc : Int) < 65536) = true := decide_eq_true (by omega)
              have t2' : decide (pc < 65536) = true := decide_eq_true hlow
              have u1 : IntKind.u64.wrap ((pc : Int) - 65536) = ((18446744073709551616 + pc - 65536 : Nat) : Int) := by rw [IntKind.wrap_u64]; omega
              obtain ⟨y, hy⟩ : ∃ y : Nat, 18446744073709551616 + pc - 65536 = y := ⟨_, rfl⟩
              have hyl : y < 18446744073709551616 := by omega
              rw [hy] at u1
              have u2 : (y : Int).tdiv 4 = ((y / 4 : Nat) : Int) := by rw [Int.tdiv_eq_ediv_of_nonneg (by omega)]; omega
              have u2' : (y : Int) / 4 = ((y / 4 : Nat) : Int) := by omega
              obtain ⟨z, hz⟩ : ∃ z : Nat, y / 4 = z := ⟨_, rfl⟩
              rw [hz] at u2 u2'
              have u3 : IntKind.i64.wrap (z : Int) = (z : Int) := IntWalk.i64_in _ (by omega)
              have u4 : IntKind.u64.wrap (z : Int) = (z : Int) := by rw [IntKind.wrap_u64]; omega
              clear hy hyl hz hlow
              go_wp2_with fail
              with_reducible refine HPc.out.mono ?_
              rintro e w6 ⟨rfl, hw6⟩
              subst hw6
              go_wp2_with fail
              with_reducible refine HPc.out.mono ?_
              rintro e w6 ⟨rfl, hw6⟩
              subst hw6
              cases hE : loopF (nxN l) l.length
              · have x1 : decide (((j : Nat) : Int) ≤ longF l) = true := decide_eq_true (HLE.out hE)
                have x2 : decide (((j : Nat) : Int) ≤ longF l) = true := x1
                try simp only [Int.natCast_add, Int.cast_ofNat_Int] at x2
                go_wp2_with fail
                go_ret
                exact ⟨rfl, HFX.out⟩
              · go_wp2_with fail
                go_ret
                exact ⟨rfl, HFX.out⟩
            · have u1 : IntKind.u64.wrap (((65536 + 4 * p : Nat) : Int) - 65536) = ((4 * p : Nat) : Int) := by rw [IntKind.wrap_u64]; omega
              have u2 : ((4 * p : Nat) : Int).tdiv 4 = (p : Int) := by rw [Int.tdiv_eq_ediv_of_nonneg (by omega)]; omega
              have u2' : ((4 * p : Nat) : Int) / 4 = (p : Int) := by omega
              have u3 : IntKind.i64.wrap (p : Int) = (p : Int) := IntWalk.i64_in _ (by omega)
              have u4 : IntKind.u64.wrap (p : Int) = (p : Int) := by rw [IntKind.wrap_u64]; omega
              have t2 : decide (((65536 + 4 * p : Nat) : Int) < 65536) = false := decide_eq_false (by omega)
              have t2' : decide (65536 + 4 * p < 65536) = false := decide_eq_false (by omega)
              obtain ⟨pc, hpc⟩ : ∃ pc : Nat, 65536 + 4 * p = pc := ⟨_, rfl⟩
              obtain ⟨y, hy⟩ : ∃ y : Nat, 4 * p = y := ⟨_, rfl⟩
              rw [hpc] at u1 t2 t2' HPc
              rw [hy] at u1 u2 u2'
              have HPY := Lib.hid hpc
              clear hpc hy
              by_cases hpl : p < l.length
              · have t3 : decide ((l.length : Int) ≤ (p : Int)) = false := decide_eq_false (by omega)
                have t3' : decide (l.length ≤ p) = false := decide_eq_false (by omega)
                have hIx : BAtN wE.heap.size wr (.slice p4 l.length c4) ((fromF (nxN l) l.length [0]).take l.length) := by
                  have h1 := Sl.monoIn (S' := fun k => wE.heap.size ≤ k ∧ k < w5.heap.size) HI5.out fun k hk h => ⟨h, hk⟩
                  rw [HE.out] at h1
                  have h2 := (h1.chg HCX.out fun k h e => by omega).monoIn (S' := fun k => wE.heap.size ≤ k) fun k hk h => h.1
                  unfold BAtN
                  rw [HE.out]
                  exact h2
                obtain ⟨-, hcc, g, of, rfl, hg, a0⟩ := hIx.spot (k := p) (by rw [HE.out]; exact hpl)
                have hmk : mk ((fromF (nxN l) l.length [0]).take l.length) p = true := by
                  rw [← hpr hpl]
                  unfold mk
                  rw [List.getD_eq_getElem?_getD, List.getD_eq_getElem?_getD, List.getElem?_take_of_lt hpl]
                rw [hmk] at a0
                have n2 : (p : Int).toNat = p := Int.toNat_natCast p
                have n3 : (0 : Int) ≤ p := by omega
                have n4 : (p : Int) < l.length := by omega
                have HU : Hid (Calls Tryz.prog 12 #[.pointer (some ⟨L.pb, 0, none⟩)] wr (RetW (.pointer (some ⟨L1.ub, 0, none⟩)) fun w' => w' = wr)) := Lib.hid (by
                  have := sUnit_any HG.out.mc.sp
                  rw [HG.out.pb] at this
                  exact this)
                have HT := Lib.hid (mcTryx_any HG.out.mc HG.out.c0 0 (by omega) (by omega))
                have HPL := Lib.hid hpl
                clear hpl hpr hIx hmk
                go_wp2_with fail
                with_reducible refine HPc.out.mono ?_
                rintro e w6 ⟨rfl, hw6⟩
                subst hw6
                go_wp2_with fail
                with_reducible refine HPc.out.mono ?_
                rintro e w6 ⟨rfl, hw6⟩
                subst hw6
                go_wp2_with fail
                with_reducible refine HU.out.mono ?_
                rintro e w6 ⟨rfl, hw6⟩
                subst hw6
                go_wp2_with fail
                with_reducible refine HT.out.mono ?_
                rintro e w7 ⟨O, hO, rfl, L2, hext, hM2, cT⟩
                obtain ⟨hR2, hdn⟩ := try_came HMM.out H40.out HR.out HG.out.run HG.out.c0 HPE.out HPL.out HG.out.came hO
                clear hO
                obtain ⟨⟨dn, ⟨eo, ed, es, et, em⟩, dp, dc, da, dad, ds, dol, dne⟩, c2, u2x⟩ := O
                dsimp only at hR2 hdn hM2
                dsimp only [DidP.agg, DidP.cells]
                have hB := Blk.new w7 #[.bool dn, .int .i64 eo, .int .i64 ed, .int .i64 es, .int .i64 et, .int .i64 em, .int .u64 dp, .int .i64 dc, .int .i64 da, .int .u64 dad, .int .i64 ds, .int .u64 dol, .int .u64 dne] 45
                have cA : Chg NoB w7 (w7.alloc (.cells #[.bool dn, .int .i64 eo, .int .i64 ed, .int .i64 es, .int .i64 et, .int .i64 em, .int .u64 dp, .int .i64 dc, .int .i64 da, .int .u64 dad, .int .i64 ds, .int .u64 dol, .int .u64 dne] 45)) := (Chg.refl NoB w7).alloc _
                have hcT : Chg (fun k => w.heap.size ≤ k ∧ (k < wE.heap.size ∨ w5.heap.size ≤ k)) w5 w7 := HCX.out.trans cT fun k hk e => HG.out.lo k e
                have HC7 := Lib.hid (hcT.then0 cA)
                have HM7 := Lib.hid (hM2.chg0 cA)
                have HR7 := Lib.hid hR2
                have HLX : Hid (∀ k, Blks L2 cb k → w.heap.size ≤ k ∧ (k < wE.heap.size ∨ w5.heap.size ≤ k)) := Lib.hid fun k hk => by
                  have h5 := HCX.out.size
                  have h6 := HC5.out.size
                  rcases hk with e | e
                  · exact HG.out.lo k (.inl e)
                  · rcases hext.2.2 k e with e | e
                    · exact HG.out.lo k (.inr e)
                    · exact ⟨by omega, .inr (by omega)⟩
                have HPB : Hid (L2.pb = L.pb) := Lib.hid (hext.1.trans HG.out.pb)
                have HDN := Lib.hid hdn
                have y0 := hB.cell' (i := 0) (v := .bool dn) rfl
                have yl := hB.lt
                have yz := hB.frozen
                generalize hw8 : w7.alloc (.cells #[.bool dn, .int .i64 eo, .int .i64 ed, .int .i64 es, .int .i64 et, .int .i64 em, .int .u64 dp, .int .i64 dc, .int .i64 da, .int .u64 dad, .int .i64 ds, .int .u64 dol, .int .u64 dne] 45) = w8 at *
                have HFY : Hid (Chg NoB w w8) := Lib.hid (HC5.out.trans HC7.out fun k hk e => by omega)
                clear hR2 hdn hM2 hB cA hcT cT hext a0 hg hcc
                cases dn
                · skip
                  cases hE : loopF (nxN l) l.length
                  · have x1 : decide (((j : Nat) : Int) ≤ longF l) = true := decide_eq_true (HLE.out hE)
                    have x2 : decide (((j : Nat) : Int) ≤ longF l) = true := x1
                    try simp only [Int.natCast_add, Int.cast_ofNat_Int] at x2
                    go_wp2_with fail
                    go_ret
                    exact ⟨rfl, HFY.out⟩
                  · go_wp2_with fail
                    go_ret
                    exact ⟨rfl, HFY.out⟩
                · rcases HDN.out rfl with ⟨hr1, hle1⟩ | ⟨hr0, hc0⟩
                  · have HRun : Hid (Calls Tryz.prog 13 #[.pointer (some ⟨cb, 0, none⟩)] w8 (RetW (.int .i64 1) fun w' => w' = w8)) := Lib.hid (by
                      have := coreRun_any HM7.out.co
                      rw [hr1] at this
                      exact this)
                    have HLE1 := Lib.hid hle1
                    clear hr1 hle1
                    go_wp2_with fail
                    with_reducible refine HRun.out.mono ?_
                    rintro e w9 ⟨rfl, hw9⟩
                    subst hw9
                    cases hE : loopF (nxN l) l.length
                    · have x1 : decide ((((j + 1 : Nat) : Nat) : Int) ≤ longF l) = true := decide_eq_true (HLE1.out hE)
                      have x2 : decide ((((j + 1 : Nat) : Nat) : Int) ≤ longF l) = true := x1
                      try simp only [Int.natCast_add, Int.cast_ofNat_Int] at x2
                      go_wp2_with fail
                      go_ret
                      exact ⟨rfl, HFY.out⟩
                    · go_wp2_with fail
                      go_ret
                      exact ⟨rfl, HFY.out⟩
                  · have HRun : Hid (Calls Tryz.prog 13 #[.pointer (some ⟨cb, 0, none⟩)] w8 (RetW (.int .i64 0) fun w' => w' = w8)) := Lib.hid (by
                      have := coreRun_any HM7.out.co
                      rw [hr0] at this
                      exact this)
                    have HCM := Lib.hid (And.intro hr0 hc0)
                    have HJL := Lib.hid hj
                    clear hr0 hc0 hj
                    go_wp2_with fail
                    with_reducible refine HRun.out.mono ?_
                    rintro e w9 ⟨rfl, hw9⟩
                    subst hw9
                    go_wp2_with fail
                    go_roundg (150 - (j + 1))
                    case rel => exact ⟨j + 1, c2, L2, _, by have := HJK.out; have := HJL.out; omega, by go_num, by go_num, ⟨HM7.out, HPB.out, HLX.out, HR7.out, HCM.out.1, HCM.out.2⟩, HC7.out⟩
                    case measure => have := HJK.out; have := HJL.out; omega
              · have t3 : decide ((l.length : Int) ≤ (p : Int)) = true := decide_eq_true (by omega)
                have t3' : decide (l.length ≤ p) = true := decide_eq_true (by omega)
                clear hpl hpr
                go_wp2_with fail
                with_reducible refine HPc.out.mono ?_
                rintro e w6 ⟨rfl, hw6⟩
                subst hw6
                go_wp2_with fail
                with_reducible refine HPc.out.mono ?_
                rintro e w6 ⟨rfl, hw6⟩
                subst hw6
                cases hE : loopF (nxN l) l.length
                · have x1 : decide (((j : Nat) : Int) ≤ longF l) = true := decide_eq_true (HLE.out hE)
                  have x2 : decide (((j : Nat) : Int) ≤ longF l) = true := x1
                  try simp only [Int.natCast_add, Int.cast_ofNat_Int] at x2
                  go_wp2_with fail
                  go_ret
                  exact ⟨rfl, HFX.out⟩
                · go_wp2_with fail
                  go_ret
                  exact ⟨rfl, HFX.out⟩
          · obtain rfl : j = 150 := by omega
            have t1 : decide ((150 : Int) < 150) = false := by decide
            have hno : loopF (nxN l) l.length = true := by
              cases hE : loopF (nxN l) l.length with
              | true => rfl
              | false =>
                have h1 := hG.came.le hE
                have h2 := (HMM.out hE).1
                have := H40.out
                omega
            clear hjk hG hcx
            rw [hno]
            go_wp2_with fail
            go_ret
            exact ⟨rfl, HFX.out⟩
end Go.Proofs.YtapmojfebljjnaaGreat
