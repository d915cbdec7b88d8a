/- A space, a core that runs in it: the unit behind a try. No condition. What must be answered ahead of everything else: a core's first instruction. No condition. -/
import Derived.Test.YthceikgkaellkaaGreatHl
set_option linter.unusedVariables false
set_option linter.unusedSimpArgs false
namespace Go.Proofs.YthceikgkaellkaaGreat
open Go.RowKit Go.RR
/-- What a try leaves of a unit, but for bytes and buffer. -/
structure UStay (u u' : Mu) : Prop where
  fr : u'.fr = u.fr
  satp : u'.satp = u.satp
  mode : u'.mode = u.mode
theorem UStay.refl (u : Mu) : UStay u u := ⟨rfl, rfl, rfl⟩
theorem readF_stay (u : Mu) (va : Nat) (size a pick : Int) : UStay u (readF u va size a pick).2 := by
  unfold readF
  dsimp only
  split <;> exact ⟨rfl, rfl, rfl⟩
theorem storeF_stay (u : Mu) (va : Nat) (size : Int) (v : Nat) (pick : Int) : UStay u (storeF u va size v pick).2 := by
  unfold storeF
  dsimp only
  split <;> exact ⟨rfl, rfl, rfl⟩
theorem swapF_stay (u : Mu) (va : Nat) (size : Int) (t : Nat → Nat) (pick : Int) : UStay u (swapF u va size t pick).2 := by
  unfold swapF
  dsimp only
  split <;> exact ⟨rfl, rfl, rfl⟩
theorem overF_stay (c : Cor) (u : Mu) (i : In) (pick : Int) : UStay u (overF c u i pick).2.2 := by
  unfold overF
  dsimp only
  split
  · split <;> exact readF_stay _ _ _ _ _
  · split
    · split <;> exact storeF_stay _ _ _ _ _
    · split <;> exact swapF_stay _ _ _ _ _
theorem doF_stay (X : Cx) (c : Cor) (u : Mu) (i : In) (pick : Int) : UStay u (doF X c u i pick).2.2 := by
  unfold doF
  dsimp only
  split
  · exact overF_stay _ _ _ _
  · split
    · exact UStay.refl u
    · split
      · exact UStay.refl u
      · split <;> exact UStay.refl u
theorem tryF_stay (X : Cx) (c : Cor) (u : Mu) (pick : Int) : UStay u (tryF X c u pick).2.2 := by
  unfold tryF
  split
  · exact UStay.refl u
  · dsimp only
    split
    · exact readF_stay _ _ _ _ _
    · have h := readF_stay u c.pc 4 0 pick
      split
      · exact h
      · rename_i i _
        have k := doF_stay X c (readF u c.pc 4 0 pick).2 i pick
        exact ⟨k.fr.trans h.fr, k.satp.trans h.satp, k.mode.trans h.mode⟩
theorem SpAt.unit {w w' : World} {L : Pl} {s : Spc} {cb : Nat} {u' : Mu} (h : SpAt w L s) (hcb : ¬ L.All cb) (hu : MuAt w' (Grow L.SM w) L.SB L.ub L.mb L.bb u') (st : UStay s.u u') (c : Chg (fun k => k = cb ∨ L.SM k ∨ L.SB k) w w') :
    SpAt w' (L.grow w w') { s with u := u' } := by
  have nm : ∀ b, b ∈ L.names → ¬ (b = cb ∨ L.SM b ∨ L.SB b) := fun b hb e => by
    obtain ⟨-, h2, h3, -⟩ := h.ap.nm b hb
    rcases e with e | e | e
    · exact hcb (e ▸ .inl hb)
    · exact h2 e
    · exact h3 e
  have ht := h.tab
  have hT : TabAt w' (Grow L.SM w) L.mb s.u.fr L.sb L.mp L.tb s.root { s.tst with b := u'.b } :=
    ⟨st.fr ▸ hu.mem, ht.stk.chg c (nm _ (by simp [Pl.names])) (nm _ (by simp [Pl.names])), c.blk ht.tab (nm _ (by simp [Pl.names])), fun e => e.elim ht.n1 (fun e => by have := ht.stk.blk.lt; omega), fun e => e.elim ht.n2 (fun e => by have := ht.stk.map.lt; omega),
      fun e => e.elim ht.n3 (fun e => by have := ht.tab.lt; omega), ht.n4, ht.n5, ht.ok, ht.us, ht.fr⟩
  have hSC : ∀ k, L.SC k → ¬ (k = cb ∨ L.SM k ∨ L.SB k) := fun k hk e => by
    rcases e with e | e | e
    · exact hcb (e ▸ .inr (.inr (.inr hk)))
    · exact (h.ap.mB k e).2 hk
    · exact h.ap.bC k e hk
  have := h.re c (nm _ (by simp [Pl.names])) (nm _ (by simp [Pl.names])) hSC hT hu.tlb (h.sh.chg c (nm _ (by simp [Pl.names]))) (h.ri.chg c (nm _ (by simp [Pl.names])))
  have e : u' = { s.u with b := u'.b, tlb := u'.tlb } := by
    obtain ⟨b, fr, tl, sa, md⟩ := u'
    have h1 := st.fr; have h2 := st.satp; have h3 := st.mode
    dsimp only at h1 h2 h3
    subst h1 h2 h3
    rfl
  rw [e]
  exact this
/-- A core beside a space. -/
structure Mc (w : World) (L : Pl) (s : Spc) (cb : Nat) (c : Cor) : Prop where
  sp : SpAt w L s
  co : CoreAt w cb c
  ap : ¬ L.All cb
theorem Mc.chg0 {w w' : World} {L : Pl} {s : Spc} {cb : Nat} {c : Cor} (h : Mc w L s cb c) (k : Chg NoB w w') : Mc w' L s cb c := ⟨h.sp.chg0 k, h.co.chg k id, h.ap⟩
theorem Mc.core {w w' : World} {L : Pl} {s : Spc} {cb : Nat} {c c' : Cor} (h : Mc w L s cb c) (hc : CoreAt w' cb c') (k : Chg (fun k => k = cb) w w') : Mc w' L s cb c' := ⟨h.sp.chg k fun j hj e => h.ap (by have e : j = cb := e; exact e ▸ hj), hc, h.ap⟩
def Blks (L : Pl) (cb : Nat) (k : Nat) : Prop := k = cb ∨ L.All k
theorem mcTry_any {X : Cx} {w : World} {L : Pl} {s : Spc} {cb : Nat} {c : Cor} (h : Mc w L s cb c) (hr : c.run = 0) (pick : Int) (hX : ∀ i, instG (readF s.u c.pc 4 0 pick).1.1 = some i → CxFor X i.op) (p1 : -9223372036854775808 ≤ pick) (p2 : pick ≤ 9223372036854775807) :
    Calls Tryz.prog 15 #[.pointer (some ⟨cb, 0, none⟩), .pointer (some ⟨L.ub, 0, none⟩), .int .i64 pick] w (RetW (tryF X c s.u pick).1.agg fun w' => ∃ L' : Pl, Ext L L' w ∧ Mc w' L' { s with u := (tryF X c s.u pick).2.2 } cb (tryF X c s.u pick).2.1 ∧ Chg (Blks L cb) w w') := by
  have hub : L.All L.ub := .inl (by simp [Pl.names])
  refine (try_any h.co h.sp.mu (fun e => h.ap (e ▸ hub)) (fun e => h.ap (.inr (.inl e))) (fun e => h.ap (.inr (.inr (.inl e)))) (fun k hk => h.sp.lt k (.inr (.inl hk))) hr pick hX p1 p2).mono ?_
  rintro e w' ⟨rfl, hc, hm, k⟩
  refine ⟨rfl, L.grow w w', Ext.grow L w w', ⟨h.sp.unit h.ap hm (tryF_stay X c s.u pick) k, hc, fun e => ?_⟩, k.mono fun j _ e => ?_⟩
  · rcases (Ext.grow L w w').2.2 cb e with e | e
    · exact h.ap e
    · have := h.co.blk.lt; omega
  · rcases e with e | e | e
    · exact .inl e
    · exact .inr (.inr (.inl e))
    · exact .inr (.inr (.inr (.inl e)))
end Go.Proofs.YthceikgkaellkaaGreat
set_option linter.unusedVariables false
set_option linter.unusedSimpArgs false
namespace Go.Proofs.YthceikgkaellkaaGreat
open Go.RowKit Go.RR
def nilCx : Cx := ⟨fun _ _ => 0, fun _ _ => 0, fun _ _ => 0, fun _ => 0, fun _ => 0⟩
def prog1 : List In := [⟨1, 1, 0, 0, 5⟩, ⟨3, 2, 1, 0, 28⟩]
theorem prog1_l : progL prog1 = prog1 := by decide
theorem prog1_r : ∀ i ∈ prog1, rightB i = true := by decide
/-- The first instruction of the first program, done. -/
theorem try1 : ∃ b, tryF nilCx (Cor.new 65536) (madeS prog1).u 0 = (⟨true, ⟨1, 1, 0, 0, 5⟩, 65536, -1, 0, 0, 0, 0, 0⟩, { ((Cor.new 65536).set 1 5) with pc := 65540 }, { (madeS prog1).u with tlb := b }) := by
  have h := (made_ok prog1_r (by decide)).all
  obtain ⟨t1, t0, I⟩ := h.inv
  have hp : HasProg (madeS prog1) prog1 := h.prog
  have hI : SpInv (madeS prog1) t1 t0 := I
  generalize madeS prog1 = s at *
  obtain ⟨b, hb, e⟩ := try_prog nilCx hI hp prog1_r (k := 0) (i := ⟨1, 1, 0, 0, 5⟩) rfl (c := Cor.new 65536) rfl rfl 0
  refine ⟨b, e.trans ?_⟩
  rfl
theorem fetch1 : instG (readF (madeS prog1).u 65536 4 0 0).1.1 = some ⟨1, 1, 0, 0, 5⟩ := by
  have h := (made_ok prog1_r (by decide)).all
  obtain ⟨t1, t0, I⟩ := h.inv
  have hp : HasProg (madeS prog1) prog1 := h.prog
  have hI : SpInv (madeS prog1) t1 t0 := I
  generalize madeS prog1 = s at *
  obtain ⟨b, hb, e⟩ := fetch_prog hI hp (k := 0) (i := ⟨1, 1, 0, 0, 5⟩) rfl 0
  have e' : readF s.u 65536 4 0 0 = _ := e
  rw [e']
  exact instG_W (by decide)
set_option maxHeartbeats 4000000 in
set_option maxRecDepth 100000 in
theorem first22_any (w : World) : Calls Tryz.prog 9 #[] w (RetW (.bool true) fun w' => Chg NoB w w') := by
  have hF : Sl (w.alloc (.cells #[.int .i64 1, .int .i64 1, .int .i64 0, .int .i64 0, .int .i64 5, .int .i64 3, .int .i64 2, .int .i64 1, .int .i64 0, .int .i64 28] 40)) (fun k => k = w.heap.size) 5 (.slice (some ⟨w.heap.size, 0, none⟩) 2 2) 2 (icells prog1) :=
    Sl.fresh w (icells prog1) 40 2 rfl
  have cA : Chg NoB w (w.alloc (.cells #[.int .i64 1, .int .i64 1, .int .i64 0, .int .i64 0, .int .i64 5, .int .i64 3, .int .i64 2, .int .i64 1, .int .i64 0, .int .i64 28] 40)) := (Chg.refl NoB w).alloc _
  have HMd := Lib.hid (made_any prog1 _ _ hF (by decide))
  rw [prog1_l] at HMd
  have HA := Lib.hid cA
  clear hF cA
  go_enter Tryz.func9, Tryz.ntmps9
  go_wp2_with fail
  refine HMd.out.mono ?_
  rintro e w1 ⟨v1, rfl, L, cb, xb, rb, rfl, hS, hC, hL, hcb, hap, k1⟩
  have HMc : Hid (Mc w1 L (madeS prog1) cb (Cor.new 65536)) := Lib.hid ⟨hS, hC, hap⟩
  have HK1 := Lib.hid (HA.out.step k1)
  have HLo : Hid (∀ k, Blks L cb k → w.heap.size ≤ k) := Lib.hid fun k hk => Nat.le_trans HA.out.size (hk.elim (fun e => e ▸ hcb) (hL k))
  have HU := Lib.hid (sUnit_any hS)
  clear hS hC hL hcb hap k1
  go_wp2_with fail
  refine HU.out.mono ?_
  rintro e w2 ⟨rfl, hw2⟩
  subst hw2
  obtain ⟨b, he⟩ := try1
  have HT := Lib.hid (mcTry_any (X := nilCx) HMc.out rfl 0 (fun i hi => by
    have h2 : some _ = some i := (fetch1.symm.trans hi)
    cases h2
    exact fun e => absurd e.1 (by decide)) (by decide) (by decide))
  rw [he] at HT
  obtain ⟨c1, hc1⟩ : ∃ c1 : Cor, { ((Cor.new 65536).set 1 5) with pc := 65540 } = c1 := ⟨_, rfl⟩
  have e1 : c1.r 1 = 5 := by rw [← hc1]; rfl
  have e0 : c1.r 0 = 0 := by rw [← hc1]; rfl
  have ep : c1.pc = 65540 := by rw [← hc1]
  have er : c1.run = 0 := by rw [← hc1]; rfl
  rw [hc1] at HT
  clear hc1 he HMc HU
  go_wp2_with fail
  refine HT.out.mono ?_
  rintro e w3 ⟨rfl, L', hE, hM, k3⟩
  have HM3 := Lib.hid hM.co
  have HK3 : Hid (Chg NoB w w3) := Lib.hid (HK1.out.trans k3 fun k hk e => absurd (HLo.out k e) (by omega))
  clear hE hM k3 HT
  simp only [DidP.agg, DidP.cells]
  have HPc : Hid (∀ w', Chg NoB w3 w' → Calls Tryz.prog 19 #[.pointer (some ⟨cb, 0, none⟩)] w' (RetW (.int .u64 65540) fun w'' => w'' = w')) := Lib.hid fun w' k => by
    have := corePc_any (HM3.out.chg k id)
    rw [ep] at this
    exact this
  have HR1 : Hid (∀ w', Chg NoB w3 w' → Calls Tryz.prog 18 #[.pointer (some ⟨cb, 0, none⟩), .int .i64 1] w' (RetW (.int .u64 5) fun w'' => w'' = w')) := Lib.hid fun w' k => by
    have := coreReg_any (HM3.out.chg k id) 1
    rw [if_pos (by decide), show c1.r (1 : Int).toNat = 5 from e1] at this
    exact this
  have HR0 : Hid (∀ w', Chg NoB w3 w' → Calls Tryz.prog 18 #[.pointer (some ⟨cb, 0, none⟩), .int .i64 0] w' (RetW (.int .u64 0) fun w'' => w'' = w')) := Lib.hid fun w' k => by
    have := coreReg_any (HM3.out.chg k id) 0
    rw [if_pos (by decide), show c1.r (0 : Int).toNat = 0 from e0] at this
    exact this
  have HRn : Hid (∀ w', Chg NoB w3 w' → Calls Tryz.prog 11 #[.pointer (some ⟨cb, 0, none⟩)] w' (RetW (.int .i64 0) fun w'' => w'' = w')) := Lib.hid fun w' k => by
    have := coreRun_any (HM3.out.chg k id)
    rw [er] at this
    exact this
  have k4 : Chg NoB w3 (w3.alloc (.cells #[.bool true, .int .i64 1, .int .i64 1, .int .i64 0, .int .i64 0, .int .i64 5, .int .u64 65536, .int .i64 (-1), .int .i64 0, .int .u64 0, .int .i64 0, .int .u64 0, .int .u64 0] 43)) := (Chg.refl NoB w3).alloc _
  clear e1 e0 ep er HMd
  go_wp2_with fail
  refine (HPc.out _ k4).mono ?_
  rintro e w4 ⟨rfl, hw⟩
  subst hw
  go_wp2_with fail
  refine (HR1.out _ k4).mono ?_
  rintro e w4 ⟨rfl, hw⟩
  subst hw
  go_wp2_with fail
  refine (HR0.out _ k4).mono ?_
  rintro e w4 ⟨rfl, hw⟩
  subst hw
  go_wp2_with fail
  refine (HRn.out _ k4).mono ?_
  rintro e w4 ⟨rfl, hw⟩
  subst hw
  go_wp2_with fail
  go_ret
  exact ⟨rfl, HK3.out.step k4⟩
end Go.Proofs.YthceikgkaellkaaGreat
