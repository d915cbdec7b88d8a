/- Spaces: a page's right is set. No condition. Spaces: bytes of code are laid. No condition. Spaces: a page's bytes. No condition. -/
import Derived.Test.YtdjaeoeejcmhdaaGreatDoorGx
set_option linter.unusedVariables false
set_option linter.unusedSimpArgs false
namespace Go.Proofs.YtdjaeoeejcmhdaaGreatDoor
open Go.RowKit Go.RR
theorem right_run {w' : World} {rb : Nat} {s : Spc} (h : MapAt w' rb .i64 (rim s.rights)) (p : Int) : (Instr.lookup 82 (.map (some rb)) (.int .i64 p) false).run Tryz.prog w' = .ok (.int .i64 (rightOf s p)) w' := by
  obtain ⟨i0, hi0, hz0, hz1, hz2⟩ := info_parts RIGHTi
  have := run_look1 (P := Tryz.prog) Tryz.underlying82 Tryz.underlying3 hi0 hz0 h p
  rw [rim_look] at this
  rw [this]
  unfold rightOf
  cases (s.rights.find? fun x => x.1 == p) <;> rfl
theorem SpAt.same {w w' : World} {L : Pl} {s : Spc} {S : Nat → Prop} (h : SpAt w L s) (c : Chg S w w') (hS : ∀ k, S k → L.SB k ∨ k = L.rb) : TabAt w' (Grow L.SM w) L.mb s.u.fr L.sb L.mp L.tb s.root s.tst ∧ (¬ S L.pb) ∧ (¬ S L.ub) ∧ (∀ k, L.SC k → ¬ S k) ∧ ¬ S L.xb := by
  have ap := h.ap
  have hne := ap.nes
  obtain ⟨x1, x2, x3, x4⟩ := ap.nm L.xb (by simp [Pl.names])
  obtain ⟨p1, p2, p3, p4⟩ := ap.nm L.pb (by simp [Pl.names])
  obtain ⟨u1, u2, u3, u4⟩ := ap.nm L.ub (by simp [Pl.names])
  obtain ⟨s1, s2, s3, s4⟩ := ap.nm L.sb (by simp [Pl.names])
  obtain ⟨m1, m2, m3, m4⟩ := ap.nm L.mp (by simp [Pl.names])
  obtain ⟨t1, t2, t3, t4⟩ := ap.nm L.tb (by simp [Pl.names])
  obtain ⟨r1, r2, r3, r4⟩ := ap.nm L.rb (by simp [Pl.names])
  have n : ∀ b, ¬ L.SB b → b ≠ L.rb → ¬ S b := fun b e1 e2 e => (hS b e).elim e1 e2
  refine ⟨(h.tab.chg c fun k hk => ?_).grow0 h.tab, n _ p3 hne.1.2.2.2.2.2, n _ u3 hne.2.2.2.2.1.2, fun k hk => n k (fun e => ap.bC k e hk) (fun e => r4 (e ▸ hk)), n _ x3 hne.2.2.2.2.2⟩
  rcases hk with hk | hk | hk | hk
  · exact n k (ap.mB k hk).1 (fun e => r2 (e ▸ hk))
  · rw [hk]; exact n _ s3 hne.2.1.2.2.2.2
  · rw [hk]; exact n _ m3 hne.2.2.1.2.2.2
  · rw [hk]; exact n _ t3 hne.2.2.2.1.2.2
theorem SpAt.rerights {w w' : World} {L : Pl} {s : Spc} (h : SpAt w L s) (c : Chg (fun k => k = L.rb) w w') {ri : List (Int × Int)} (hm : MapAt w' L.rb .i64 (rim ri)) : SpAt w' (L.grow w w') { s with rights := ri } ∧ Chg L.All w w' := by
  obtain ⟨a1, a2, a3, a4, a5⟩ := h.same c fun k e => .inr e
  exact ⟨h.re c a2 a3 a4 a1 (h.mu.tlb.chg c fun k hk e => (h.ap.nm L.rb (by simp [Pl.names])).2.2.1 (e ▸ hk)) (h.sh.chg c a5) hm, c.mono fun k _ e => .inl (by simp [Pl.names, e])⟩
theorem SpAt.retlb {w w' : World} {L : Pl} {s : Spc} (h : SpAt w L s) (c : Chg L.SB w w') {tl : Tlb} (ht : TlbAt w' L.SB L.bb tl) : SpAt w' (L.grow w w') { s with u := { s.u with tlb := tl } } ∧ Chg L.All w w' := by
  obtain ⟨a1, a2, a3, a4, a5⟩ := h.same c fun k e => .inl e
  exact ⟨h.re c a2 a3 a4 a1 ht (h.sh.chg c a5) (h.ri.chg c (h.ap.nm L.rb (by simp [Pl.names])).2.2.1), c.mono fun k _ e => .inr (.inr (.inl e))⟩
/-- The same space, perhaps with more blocks. -/
def Ext (L L' : Pl) (w : World) : Prop := L'.pb = L.pb ∧ L'.ub = L.ub ∧ ∀ k, L'.All k → L.All k ∨ w.heap.size ≤ k
theorem Ext.refl (L : Pl) (w : World) : Ext L L w := ⟨rfl, rfl, fun _ => .inl⟩
theorem Ext.grow (L : Pl) (w w' : World) : Ext L (L.grow w w') w := ⟨rfl, rfl, fun k hk => by
  rcases hk with hk | hk | hk
  · exact .inl (.inl hk)
  · exact hk.1.elim (fun e => .inl (.inr (.inl e))) .inr
  · exact .inl (.inr (.inr hk))⟩
theorem Ext.trans {L L' L'' : Pl} {w w' : World} (h : Ext L L' w) (k : Ext L' L'' w') (hz : w.heap.size ≤ w'.heap.size) : Ext L L'' w :=
  ⟨k.1.trans h.1, k.2.1.trans h.2.1, fun j hj => (k.2.2 j hj).elim (h.2.2 j) fun e => .inr (by omega)⟩
theorem Ext.chg {L L' : Pl} {w w1 w2 : World} (h : Ext L L' w) (c1 : Chg L.All w w1) (c2 : Chg L'.All w1 w2) : Chg L.All w w2 := c1.trans c2 fun k hk e => (h.2.2 k e).elim id fun e => by omega
/-- A right can be set. -/
structure SetOk (s : Spc) (p : Nat) (r : Int) : Prop where
  pl : (p : Int) < s.shape.shared
  sh : s.shape.shared ≤ 65536
  r0 : 0 ≤ r
  r2 : r ≤ 2
  fr : r ≠ rightOf s p → (∃ f : Nat, frameOf s p = some f ∧ f < 17592186044416 ∧ RemOk s p f r) ∨ (frameOf s p = none ∧ s.stk.next < s.stk.fin ∧ RemOk (frameF s p).2 p (frameF s p).1.1 r)
theorem mayL_ent {f : Nat} {r : Int} (hf : f < 17592186044416) : mayL (if r = 2 then ownP f else readP f) 0 = true := by
  split
  · unfold mayL; rw [pteG_W (ent_own.ok f hf), decide_eq_true rfl, ent_own.right f, ent_own.leaf f, show evenB (ownP f).ppn 0 = true from decide_eq_true (Nat.mod_one _)]; rfl
  · unfold mayL; rw [pteG_W (ent_read.ok f hf), decide_eq_true rfl, ent_read.right f, ent_read.leaf f, show evenB (readP f).ppn 0 = true from decide_eq_true (Nat.mod_one _)]; rfl
theorem remapF_zero {s : Spc} {p f : Nat} {r : Int} (h : RemOk s p f r) (hf : f < 17592186044416) : (remapF s p f r).1 = 0 := by
  unfold remapF
  by_cases h0 : r = 0
  · rw [if_pos h0]
  · rw [if_neg h0]
    by_cases hr : rightOf s p = 0
    · rw [if_pos hr]
      exact (h.mp h0 hr).2
    · rw [if_neg hr]
      obtain ⟨P, pos, h1, h2, h3⟩ := h.ch h0 hr
      unfold changeF
      dsimp only
      rw [h1]
      have hm : mayL (if r = 2 then ownP f else readP f) ((0 : Int).toNat) = true := mayL_ent hf
      dsimp only
      rw [hm]
      rfl
set_option maxRecDepth 100000 in
theorem set_same_any {w : World} {L : Pl} {s : Spc} (h : SpAt w L s) (p : Nat) (r : Int) (hS : SetOk s p r) (hr : r = rightOf s p) :
    Calls Tryz.prog 46 #[.pointer (some ⟨L.pb, 0, none⟩), .int .i64 p, .int .i64 r] w (RetW (.int .i64 0) fun w' => w' = w) := by
  have HTh := Lib.hid (sThere_any h p (by omega) hS.pl)
  have hl := right_run h.ri p
  rw [← hr] at hl
  have f11 := h.blk.cell' (i := 11) (v := .map (some L.rb)) rfl
  have fl := h.blk.lt
  have t1 : decide (r < 0) = false := decide_eq_false (by have := hS.r0; omega)
  have t2 : decide (2 < r) = false := decide_eq_false (by have := hS.r2; omega)
  have t3 : (r == r) = true := by simp
  clear h hS hr
  go_enter Tryz.func46, Tryz.ntmps46
  go_wp2_with fail
  refine HTh.out.mono ?_
  rintro e w1 ⟨rfl, hw⟩
  subst hw
  go_wp2_with fail
  go_ret
  exact ⟨rfl, rfl⟩
set_option maxHeartbeats 2000000 in
set_option maxRecDepth 100000 in
theorem set_any {w : World} {L : Pl} {s : Spc} (h : SpAt w L s) (p : Nat) (r : Int) (hS : SetOk s p r) :
    Calls Tryz.prog 46 #[.pointer (some ⟨L.pb, 0, none⟩), .int .i64 p, .int .i64 r] w (RetW (.int .i64 0) fun w' => ∃ L' : Pl, Ext L L' w ∧ SpAt w' L' (setF s p r).2 ∧ Chg L.All w w') := by
  by_cases hr : r = rightOf s p
  · refine (set_same_any h p r hS hr).mono ?_
    rintro e w' ⟨rfl, rfl⟩
    refine ⟨rfl, L, Ext.refl _ _, ?_, Chg.refl _ _⟩
    have : (setF s p r).2 = s := by
      unfold setF
      rw [if_neg (by have := hS.pl; omega), if_neg (by have := hS.r0; have := hS.r2; omega), if_pos hr]
    rw [this]
    exact h
  · obtain ⟨s1, f, hFF, hfl, hRm, hFr⟩ : ∃ (s1 : Spc) (f : Nat), frameF s p = ((f, 0), s1) ∧ f < 17592186044416 ∧ RemOk s1 p f r ∧ Calls Tryz.prog 85 #[.pointer (some ⟨L.pb, 0, none⟩), .int .i64 p] w (RetW (.tuple #[.int .i64 f, .int .i64 0]) fun w' => ∃ L1, Ext L L1 w ∧ SpAt w' L1 s1 ∧ Chg L.All w w') := by
      rcases hS.fr hr with ⟨f, h1, h2, h3⟩ | ⟨h1, h2, h3⟩
      · exact ⟨s, f, by unfold frameF; rw [h1], h2, h3, (frame_has h p f h1).mono fun e w' he => ⟨he.1, L, Ext.refl _ _, by rw [he.2]; exact h, by rw [he.2]; exact Chg.refl _ _⟩⟩
      · have hF : frameF s p = ((s.stk.next, 0), { s with stk := { s.stk with next := s.stk.next + 1, taken := addN s.stk.taken s.stk.next }, u := { s.u with b := zeroPg s.u.b s.stk.next }, shared := putI s.shared p s.stk.next }) := by
          unfold frameF Stk.take
          rw [h1, if_pos h2]
        have hw := frame_new h p h1 h2
        rw [hF] at h3 hw
        exact ⟨_, s.stk.next, hF, by have := h.tab.ok.fin; have h4 : s.stk.fin ≤ s.u.fr := h.tab.ok.fin; have := h.tab.fr; omega, h3, hw.mono fun e w' he => ⟨he.1, _, Ext.grow L w w', he.2.1, he.2.2⟩⟩
    have hs1r : s1.rights = s.rights := by
      have : s1 = (frameF s p).2 := by rw [hFF]
      rw [this]
      unfold frameF
      split
      · rfl
      · split <;> rfl
    have hSF : (setF s p r).2 = { (remapF s1 p f r).2 with rights := putI (remapF s1 p f r).2.rights p r, u := { (remapF s1 p f r).2.u with tlb := tlbFence (remapF s1 p f r).2.u.tlb (vaOf p) } } := by
      unfold setF
      rw [if_neg (by have := hS.pl; omega), if_neg (by have := hS.r0; have := hS.r2; omega), if_neg hr, hFF]
      dsimp only
      rw [if_neg (by simp), remapF_zero hRm hfl, if_neg (by simp)]
    rw [hSF]
    obtain ⟨s2, hs2⟩ : ∃ s2, (remapF s1 p f r).2 = s2 := ⟨_, rfl⟩
    have hp6 : p ≤ 65536 := by have := hS.pl; have := hS.sh; omega
    have HRm := Lib.hid fun w1 L1 (h1 : SpAt w1 L1 s1) => remap_any h1 p f r hp6 hfl hS.r0 hS.r2 hRm
    rw [hs2] at HRm ⊢
    have HTh := Lib.hid (sThere_any h p (by omega) hS.pl)
    have HFr := Lib.hid hFr
    have HV := Lib.hid fun w' => va_any p hp6 w'
    have HVl := Lib.hid (vaOf_lt p hp6).1
    have H := Lib.hid h
    have hl := right_run h.ri p
    obtain ⟨q, hq⟩ : ∃ q, rightOf s p = q := ⟨_, rfl⟩
    rw [hq] at hl hr
    have t3 : (r == q) = false := by rw [beq_eq_false_iff_ne]; exact hr
    have f11 := h.blk.cell' (i := 11) (v := .map (some L.rb)) rfl
    have fl := h.blk.lt
    have t1 : decide (r < 0) = false := decide_eq_false (by have := hS.r0; omega)
    have t2 : decide (2 < r) = false := decide_eq_false (by have := hS.r2; omega)
    obtain ⟨V, hV⟩ : ∃ V, vaOf (p : Int) = V := ⟨_, rfl⟩
    rw [hV] at HV HVl ⊢
    clear hFF hfl hRm hFr hs1r hSF hs2 h hS hr hq hV hp6
    go_enter Tryz.func46, Tryz.ntmps46
    go_wp2_with fail
    refine HTh.out.mono ?_
    rintro e w0 ⟨rfl, hw⟩
    subst hw
    go_wp2_with fail
    refine HFr.out.mono ?_
    rintro e w1 ⟨rfl, L1, hE1, hS1, hC1⟩
    have HE1 := Lib.hid hE1
    have HS1 := Lib.hid hS1
    have HC1 := Lib.hid hC1
    have HRm1 := Lib.hid (HRm.out w1 L1 hS1)
    rw [hE1.1] at HRm1
    clear f11 fl hl hE1 hS1 hC1
    go_wp2_with fail
    refine HRm1.out.mono ?_
    rintro e w2 ⟨rfl, hS2, hC2⟩
    have HE2 := Lib.hid (HE1.out.trans (Ext.grow L1 w1 w2) HC1.out.size)
    have HS2 := Lib.hid hS2
    have HC2 := Lib.hid (HE1.out.chg HC1.out hC2)
    obtain ⟨L2, hL2⟩ : ∃ L2, L1.grow w1 w2 = L2 := ⟨_, rfl⟩
    rw [hL2] at HE2 HS2
    have hb2 := HS2.out.blk
    rw [HE2.out.1] at hb2
    have f11 := hb2.cell' (i := 11) (v := .map (some L2.rb)) rfl
    have fl := hb2.lt
    have hri := HS2.out.ri
    clear hS2 hC2 hL2 hb2
    go_wp2_with (refine wpList_mapput rfl _ _ _ 82 3 56 rfl Tryz.underlying82 Tryz.underlying3 rfl hri p rfl (.int .i64 r) rfl ?_)
    intro w3 hm3 c3
    rw [rim_put] at hm3
    obtain ⟨hS3, hC3⟩ := HS2.out.rerights c3 hm3
    have HE3 := Lib.hid (HE2.out.trans (Ext.grow L2 w2 w3) HC2.out.size)
    have HS3 := Lib.hid hS3
    have HC3 := Lib.hid (HE2.out.chg HC2.out hC3)
    obtain ⟨L3, hL3⟩ : ∃ L3, L2.grow w2 w3 = L3 := ⟨_, rfl⟩
    rw [hL3] at HE3 HS3
    have hb3 := HS3.out.blk
    rw [HE3.out.1, HE3.out.2.1] at hb3
    have f7 : ∀ w', Chg NoB w3 w' → w'.cell? ⟨L.pb, 7, none⟩ = some (.pointer (some ⟨L.ub, 0, none⟩)) := fun w' c => (c.blk0 hb3).cell' (i := 7) rfl
    have fl3 := hb3.everL
    have cc := Chg.refl NoB w3
    clear hS3 hC3 hL3 hb3 hm3 c3 hri f11 fl
    go_upto_region 16 with fail
    refine wp_region_mix 7 [(true, 0), (true, 1), (true, 2), (true, 3), (true, 4), (false, 5), (false, 6)] (fun w' => Chg NoB w3 w') (by kernel_rfl) (by kernel_rfl) (fun _ _ _ _ _ h => h) (cc.drew) ?_
    simp only [pickMix_nil, pickMix_cons, Option.getD_some, List.getElem?_toArray, List.getElem?_cons_zero, List.getElem?_cons_succ, List.cons_append, List.nil_append, List.drop_succ_cons, List.drop_zero]
    iterate 5
     refine wpMix_take rfl ?_
     apply Exists.intro
     refine ⟨fun wS hS => ?_, ?_⟩
     · try dsimp only at hS
       have cS := hS
       go_simp
       try rfl
     simp only [Act.put, List.setIfInBounds_toArray, List.set_cons_zero, List.set_cons_succ]
    refine wpMix_force rfl (fun K hK => ?_)
    go_simp
    refine (HV.out _).mono ?_
    rintro e wd ⟨rfl, hwd⟩
    subst hwd
    refine hK _ _ cc.drew ?_
    clear hK K
    refine wpMix_force rfl (fun K hK => ?_)
    go_simp
    have c4 : Chg NoB w3 (w3.alloc (.cells #[.int .u64 V] 33)).drew := (cc.alloc _).drew
    refine hK _ _ c4 ?_
    clear hK K
    refine wpMix_nil ?_
    have HSx := Lib.hid (HS3.out.chg0 c4)
    have hcell : (w3.alloc (.cells #[.int .u64 V] 33)).drew.cell? ⟨w3.heap.size, 0, none⟩ = some (.int .u64 V) := (Blk.new w3 #[.int .u64 V] 33).cell' rfl
    have hnb : ¬ L3.SB w3.heap.size := fun e => Nat.lt_irrefl _ (HS3.out.mu.n4 _ e)
    have HFe := Lib.hid (munit_fence HSx.out.mu V w3.heap.size HVl.out hcell hnb)
    rw [HE3.out.2.1] at HFe
    clear hcell hnb
    go_wp2_with fail
    refine HFe.out.mono ?_
    rintro e w5 ⟨v, rfl, n, rfl, hm5, c5⟩
    obtain ⟨hS5, hC5⟩ := HSx.out.retlb c5 hm5.tlb
    have HX : Hid (∃ L' : Pl, Ext L L' w0 ∧ SpAt w5 L' { s2 with rights := putI s2.rights p r, u := { s2.u with tlb := tlbFence s2.u.tlb V } } ∧ Chg L.All w0 w5) := Lib.hid
      ⟨_, (HE3.out.trans (Ext.grow L3 _ w5) (Nat.le_trans HC3.out.size c4.size)), hS5, HE3.out.chg HC3.out ((c4.mono (S' := L3.All) fun _ _ e => e.elim).step hC5)⟩
    clear hm5 c5 hS5 hC5 c4 cc f7 fl3
    go_wp2_with fail
    go_ret
    exact ⟨rfl, HX.out⟩
end Go.Proofs.YtdjaeoeejcmhdaaGreatDoor
set_option linter.unusedVariables false
set_option linter.unusedSimpArgs false
namespace Go.Proofs.YtdjaeoeejcmhdaaGreatDoor
open Go.RowKit Go.RR

theorem SpAt.remem {w w' : World} {L : Pl} {s : Spc} (h : SpAt w L s) {b : By} (hm : MemAt w' (Grow L.SM w) L.mb b s.u.fr) (c : Chg L.SM w w') : SpAt w' (L.grow w w') { s with u := { s.u with b := b } } ∧ Chg L.All w w' :=
  h.retab (h.tab.store hm c) (c.mono fun _ _ e => .inl e)
end Go.Proofs.YtdjaeoeejcmhdaaGreatDoor
set_option linter.unusedVariables false
set_option linter.unusedSimpArgs false
namespace Go.Proofs.YtdjaeoeejcmhdaaGreatDoor
open Go.RowKit Go.RR
/-- A page's bytes. -/
def dataF (s : Spc) (p : Int) : By := match frameOf s p with | some f => pgF s.u.b f | none => fun _ => 0
set_option maxHeartbeats 1000000 in
set_option maxRecDepth 100000 in
theorem data_any {w : World} {L : Pl} {s : Spc} (h : SpAt w L s) (p : Int) (hp : 0 ≤ p) (hp2 : p < s.shape.shared) (hfr : ∀ f, frameOf s p = some f → f < s.u.fr) :
    Calls Tryz.prog 45 #[.pointer (some ⟨L.pb, 0, none⟩), .int .i64 p] w (RetV fun v w' => Own w' (fun k => w.heap.size ≤ k) 5 1 v 4096 (bcells (dataF s p) 4096) ∧ Chg NoB w w') := by
  have HT := Lib.hid (sThere_any h p hp hp2)
  have f3 := h.blk.cell' (i := 3) (v := .pointer (some ⟨L.mb, 0, none⟩)) rfl
  have f10 := h.blk.cell' (i := 10) (v := .map (some L.xb)) rfl
  have fl := h.blk.lt
  obtain ⟨i0, hi0, hz0, hz1, hz2⟩ := info_parts INTi
  have hl := run_look2 (P := Tryz.prog) Tryz.underlying81 Tryz.underlying3 hi0 hz0 h.sh p
  rw [shm_look] at hl
  have H := Lib.hid h
  cases hf : frameOf s p with
  | none =>
    rw [show (s.shared.find? fun x => x.1 == p).map (·.2) = none from hf] at hl
    simp only [Option.map_none, Option.getD_none, Option.isSome_none] at hl
    have HD : Hid (dataF s p = fun _ => 0) := Lib.hid (by unfold dataF; rw [hf])
    clear h hp hp2 hfr hi0 hz0 hz1 hz2 hf
    go_enter Tryz.func45, Tryz.ntmps45
    go_wp2_with fail
    refine HT.out.mono ?_
    rintro e w1 ⟨rfl, rfl⟩
    have mk := mk4096
    go_wp2_with fail
    go_ret
    have ho := Own.fresh (size := 1) w1 (bcells (fun _ => 0) 4096) 5 4096 (by rw [bcells_len]) (by decide)
    exact ⟨_, rfl, by rw [HD.out]; exact ho.mono fun k (e : k = _) => by omega, (Chg.refl NoB w1).alloc _⟩
  | some f =>
    rw [show (s.shared.find? fun x => x.1 == p).map (·.2) = some f from hf] at hl
    simp only [Option.map_some, Option.getD_some, Option.isSome_some] at hl
    have HD : Hid (dataF s p = pgF s.u.b f) := Lib.hid (by unfold dataF; rw [hf])
    have HP := Lib.hid (page_any h.mu.mem f (hfr f hf))
    clear h hp hp2 hfr hi0 hz0 hz1 hz2 hf
    go_enter Tryz.func45, Tryz.ntmps45
    go_wp2_with fail
    refine HT.out.mono ?_
    rintro e w1 ⟨rfl, rfl⟩
    go_wp2_with fail
    refine HP.out.mono ?_
    rintro e w1 ⟨r, rfl, v, rfl, hO, hC⟩
    have HO := Lib.hid hO
    have HC := Lib.hid hC
    clear hO hC f3 f10 fl hl
    go_wp2_with fail
    go_ret
    exact ⟨_, rfl, by rw [HD.out]; exact HO.out, HC.out⟩
end Go.Proofs.YtdjaeoeejcmhdaaGreatDoor
