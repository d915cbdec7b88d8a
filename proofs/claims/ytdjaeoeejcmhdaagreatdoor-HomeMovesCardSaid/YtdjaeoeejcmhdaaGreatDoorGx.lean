/- Spaces: a page is mapped anew. No condition. -/
import Derived.Test.YtdjaeoeejcmhdaaGreatDoorGw
set_option linter.unusedVariables false
set_option linter.unusedSimpArgs false
namespace Go.Proofs.YtdjaeoeejcmhdaaGreatDoor
open Go.RowKit Go.RR
theorem SpAt.retab {w w' : World} {L : Pl} {s : Spc} (h : SpAt w L s) {t' : Tst} (ht : TabAt w' (Grow L.SM w) L.mb s.u.fr L.sb L.mp L.tb s.root t') (c : Chg (TS L.SM L.sb L.mp L.tb) w w') :
    SpAt w' (L.grow w w') (s.withT t') ∧ Chg L.All w w' := by
  have ap := h.ap
  have hne := ap.nes
  obtain ⟨x1, x2, x3, x4⟩ := ap.nm L.xb (by simp [Pl.names])
  obtain ⟨p1, p2, p3, p4⟩ := ap.nm L.pb (by simp [Pl.names])
  obtain ⟨u1, u2, u3, u4⟩ := ap.nm L.ub (by simp [Pl.names])
  obtain ⟨s1, s2, s3, s4⟩ := ap.nm L.sb (by simp [Pl.names])
  obtain ⟨m1, m2, m3, m4⟩ := ap.nm L.mp (by simp [Pl.names])
  obtain ⟨t1, t2, t3, t4⟩ := ap.nm L.tb (by simp [Pl.names])
  obtain ⟨r1, r2, r3, r4⟩ := ap.nm L.rb (by simp [Pl.names])
  have n : ∀ b, ¬ L.SM b → b ≠ L.sb → b ≠ L.mp → b ≠ L.tb → ¬ TS L.SM L.sb L.mp L.tb b := fun b e1 e2 e3 e4 e => by
    rcases e with e | e | e | e
    · exact e1 e
    · exact e2 e
    · exact e3 e
    · exact e4 e
  have hb : ∀ k, L.SB k → ¬ TS L.SM L.sb L.mp L.tb k := fun k hk => n k (fun e => (ap.mB k e).1 hk) (fun e => s3 (e ▸ hk)) (fun e => m3 (e ▸ hk)) (fun e => t3 (e ▸ hk))
  refine ⟨h.re c (n _ p2 hne.1.1 hne.1.2.1 hne.1.2.2.1) (n _ u2 hne.2.1.2.2.1.symm hne.2.2.1.2.1.symm hne.2.2.2.1.1.symm) (fun k hk => n k (fun e => (ap.mB k e).2 hk) (fun e => s4 (e ▸ hk)) (fun e => m4 (e ▸ hk)) (fun e => t4 (e ▸ hk))) ht (h.mu.tlb.chg c hb)
    (h.sh.chg c (n _ x2 hne.2.1.2.2.2.1.symm hne.2.2.1.2.2.1.symm hne.2.2.2.1.2.1.symm)) (h.ri.chg c (n _ r2 hne.2.1.2.2.2.2.symm hne.2.2.1.2.2.2.symm hne.2.2.2.1.2.2.symm)), c.mono fun k _ e => ?_⟩
  rcases e with e | e | e | e
  · exact .inr (.inl e)
  · exact .inl (by simp [Pl.names, e])
  · exact .inl (by simp [Pl.names, e])
  · exact .inl (by simp [Pl.names, e])
/-- A page can be mapped anew. -/
structure RemOk (s : Spc) (p : Nat) (f : Nat) (r : Int) : Prop where
  un : r = 0 → ∃ P pos, findF s.u.b s.u.fr s.root (vaOf p) = (⟨P, 0, pos⟩, 0) ∧ pos / 4096 < s.u.fr ∧ pos % 8 = 0
  mp : r ≠ 0 → rightOf s p = 0 → LedOk s.u.fr s.root s.tst (vaOf p) ∧ (mapF s.root s.tst (vaOf p) (if r = 2 then ownP f else readP f)).1 = 0
  ch : r ≠ 0 → rightOf s p ≠ 0 → ∃ P pos, findF s.u.b s.u.fr s.root (vaOf p) = (⟨P, 0, pos⟩, 0) ∧ pos / 4096 < s.u.fr ∧ pos % 8 = 0
theorem vaOf_lt (p : Nat) (h : p ≤ 65536) : vaOf p < 18446744073709551616 ∧ canonB (vaOf p) = true := by
  unfold canonB
  have : vaOf p = 1073741824 + p * 4096 := by unfold vaOf; simp
  rw [this]
  simp
  omega
set_option maxHeartbeats 2000000 in
set_option maxRecDepth 100000 in
theorem remap_un {w : World} {L : Pl} {s : Spc} (h : SpAt w L s) (p f : Nat) (hp : p ≤ 65536) (hf : f < 17592186044416) (hR : RemOk s p f 0) :
    Calls Tryz.prog 90 #[.pointer (some ⟨L.pb, 0, none⟩), .int .i64 p, .int .i64 f, .int .i64 0] w (RetW (.int .i64 0) fun w' => SpAt w' (L.grow w w') (remapF s p f 0).2 ∧ Chg L.All w w') := by
  obtain ⟨P, pos, h1, h2, h3⟩ := hR.un rfl
  have HRF : Hid ((remapF s p f 0).2 = s.withT { s.tst with b := putW s.u.b pos 8 0 }) := Lib.hid (by
    unfold remapF
    rw [if_pos rfl]
    unfold unmapF
    dsimp only
    rw [h1]
    rfl)
  rw [HRF.out]
  have HV := Lib.hid fun w' => va_any p hp w'
  have HU := Lib.hid fun w' (c : Chg NoB w w') => unmap_any (h.tab.chg0 c) (vaOf p) P pos (vaOf_lt p hp).1 h.rtl h1 h2 h3
  have H := Lib.hid h
  obtain ⟨V, hV⟩ : ∃ V, vaOf (p : Int) = V := ⟨_, rfl⟩
  rw [hV] at HV HU
  have f5 : ∀ w', Chg NoB w w' → w'.cell? ⟨L.pb, 5, none⟩ = some (.pointer (some ⟨L.tb, 0, none⟩)) := fun w' c => (c.blk0 h.blk).cell' rfl
  have fl := h.blk.everL
  have cc := Chg.refl NoB w
  clear h hR h1 h2 h3 hV
  go_enter Tryz.func90, Tryz.ntmps90
  go_upto_region 5 with fail
  refine wp_region_mix 6 [(true, 0), (true, 1), (true, 2), (true, 3), (true, 4), (false, 5)] (fun w' => Chg NoB w w') (by kernel_rfl) (by kernel_rfl) (fun _ _ _ _ _ h => h) (cc.drew) ?_
  simp only [pickMix_nil, pickMix_cons, Option.getD_some, List.getElem?_toArray, List.getElem?_cons_zero, List.getElem?_cons_succ, List.cons_append, List.nil_append, List.drop_succ_cons, List.drop_zero]
  iterate 5
   refine wpMix_take rfl ?_
   apply Exists.intro
   refine ⟨fun wS hS => ?_, ?_⟩
   · try dsimp only at hS
     have cS := hS
     go_simp
     try rfl
   simp only [Act.put, List.setIfInBounds_toArray, List.set_cons_zero, List.set_cons_succ]
  refine wpMix_force rfl (fun K hK => ?_)
  go_simp
  refine (HV.out _).mono ?_
  rintro e wd ⟨rfl, hwd⟩
  subst hwd
  refine hK _ _ cc.drew ?_
  clear hK K
  refine wpMix_nil ?_
  go_wp2_with fail
  refine (HU.out _ cc.drew).mono ?_
  rintro e w1 ⟨v, rfl, ht, c⟩
  have HX := Lib.hid (H.out.retab (w' := w1) ht c.undrew)
  clear ht c
  go_wp2_with fail
  go_ret
  exact ⟨rfl, HX.out⟩
set_option maxHeartbeats 2000000 in
set_option maxRecDepth 100000 in
theorem remap_map1 {w : World} {L : Pl} {s : Spc} (h : SpAt w L s) (p f : Nat) (hp : p ≤ 65536) (hf : f < 17592186044416) (hR : RemOk s p f 1) (hr : rightOf s p = 0) :
    Calls Tryz.prog 90 #[.pointer (some ⟨L.pb, 0, none⟩), .int .i64 p, .int .i64 f, .int .i64 1] w (RetW (.int .i64 0) fun w' => SpAt w' (L.grow w w') (remapF s p f 1).2 ∧ Chg L.All w w') := by
  obtain ⟨h1, h2⟩ := hR.mp (by decide) hr
  have h2' : (mapF s.root s.tst (vaOf p) (readP f)).1 = 0 := h2
  have HRF : Hid ((remapF s p f 1).2 = s.withT (mapF s.root s.tst (vaOf p) (readP f)).2) := Lib.hid (by
    unfold remapF
    rw [if_neg (by decide), if_pos hr]
    rfl)
  rw [HRF.out]
  have HV := Lib.hid fun w' => va_any p hp w'
  have HM := Lib.hid fun w' (c : Chg NoB w w') => map_any (h.tab.chg0 c) (vaOf p) (readP f) (vaOf_lt p hp).1 (vaOf_lt p hp).2 (ent_read.ok f hf) (ent_read.right f) (ent_read.leaf f) h1
  rw [h2'] at HM
  have HE := Lib.hid fun w' => ent_read.call f hf w'
  have H := Lib.hid h
  obtain ⟨T', hT'⟩ : ∃ T', (mapF s.root s.tst (vaOf p) (readP f)).2 = T' := ⟨_, rfl⟩
  rw [hT'] at HM ⊢
  obtain ⟨V, hV⟩ : ∃ V, vaOf (p : Int) = V := ⟨_, rfl⟩
  rw [hV] at HV HM
  obtain ⟨⟨ev, er, ew, ex, eu, eg, ea, ed, ers, epp⟩, hE⟩ : ∃ E', readP f = E' := ⟨_, rfl⟩
  rw [hE] at HM HE
  dsimp only at HM HE
  obtain ⟨i0, hi0, hz0, hz1, hz2⟩ := info_parts RIGHTi
  have hl : ∀ w', Chg NoB w w' → (Instr.lookup 82 (.map (some L.rb)) (.int .i64 p) false).run Tryz.prog w' = .ok (.int .i64 0) w' := fun w' c => by
    have := run_look1 (P := Tryz.prog) Tryz.underlying82 Tryz.underlying3 hi0 hz0 (h.ri.chg c id) p
    rw [rim_look] at this
    rw [this]
    unfold rightOf at hr
    cases hq : (s.rights.find? fun x => x.1 == (p : Int)) with
    | none => rfl
    | some x =>
      rw [hq] at hr
      have hr : x.2 = 0 := hr
      rw [show x = (x.1, x.2) from rfl, hr]
      rfl
  have f5 : ∀ w', Chg NoB w w' → w'.cell? ⟨L.pb, 5, none⟩ = some (.pointer (some ⟨L.tb, 0, none⟩)) := fun w' c => (c.blk0 h.blk).cell' rfl
  have f11 : ∀ w', Chg NoB w w' → w'.cell? ⟨L.pb, 11, none⟩ = some (.map (some L.rb)) := fun w' c => (c.blk0 h.blk).cell' rfl
  have fl := h.blk.everL
  have cc := Chg.refl NoB w
  clear h hR h1 h2 h2' hV hr hT' hE hi0 hz0 hz1 hz2
  go_enter Tryz.func90, Tryz.ntmps90
  go_upto_region 8 with fail
  refine wp_region_mix 9 [(true, 0), (true, 1), (true, 2), (true, 3), (true, 4), (true, 6), (true, 7), (false, 5), (false, 8)] (fun w' => Chg NoB w w') (by kernel_rfl) (by kernel_rfl) (fun _ _ _ _ _ h => h) (cc.drew) ?_
  simp only [pickMix_nil, pickMix_cons, Option.getD_some, List.getElem?_toArray, List.getElem?_cons_zero, List.getElem?_cons_succ, List.cons_append, List.nil_append, List.drop_succ_cons, List.drop_zero]
  iterate 7
   refine wpMix_take rfl ?_
   apply Exists.intro
   refine ⟨fun wS hS => ?_, ?_⟩
   · try dsimp only at hS
     have cS := hS
     go_simp
     try rfl
   simp only [Act.put, List.setIfInBounds_toArray, List.set_cons_zero, List.set_cons_succ]
  refine wpMix_force rfl (fun K hK => ?_)
  go_simp
  refine (HV.out _).mono ?_
  rintro e wd ⟨rfl, hwd⟩
  subst hwd
  refine hK _ _ cc.drew ?_
  clear hK K
  refine wpMix_force rfl (fun K hK => ?_)
  go_simp
  refine (HE.out _).mono ?_
  rintro e wd ⟨rfl, hCd⟩
  have cd := cc.drew.step hCd
  refine hK _ _ cd ?_
  clear hK K hCd
  refine wpMix_nil ?_
  go_wp2_with fail
  refine (HM.out _ cd).mono ?_
  rintro e w1 ⟨rfl, ht, c⟩
  have HX := Lib.hid (H.out.retab (w' := w1) (ht.grow3 H.out.tab cd.size) ((cd.mono (S' := TS L.SM L.sb L.mp L.tb) fun _ _ e => e.elim).step c))
  clear ht c cd
  go_wp2_with fail
  go_ret
  exact ⟨rfl, HX.out⟩
set_option maxHeartbeats 2000000 in
set_option maxRecDepth 100000 in
theorem remap_map2 {w : World} {L : Pl} {s : Spc} (h : SpAt w L s) (p f : Nat) (hp : p ≤ 65536) (hf : f < 17592186044416) (hR : RemOk s p f 2) (hr : rightOf s p = 0) :
    Calls Tryz.prog 90 #[.pointer (some ⟨L.pb, 0, none⟩), .int .i64 p, .int .i64 f, .int .i64 2] w (RetW (.int .i64 0) fun w' => SpAt w' (L.grow w w') (remapF s p f 2).2 ∧ Chg L.All w w') := by
  obtain ⟨h1, h2⟩ := hR.mp (by decide) hr
  have h2' : (mapF s.root s.tst (vaOf p) (ownP f)).1 = 0 := h2
  have HRF : Hid ((remapF s p f 2).2 = s.withT (mapF s.root s.tst (vaOf p) (ownP f)).2) := Lib.hid (by
    unfold remapF
    rw [if_neg (by decide), if_pos hr]
    rfl)
  rw [HRF.out]
  have HV := Lib.hid fun w' => va_any p hp w'
  have HM := Lib.hid fun w' (c : Chg NoB w w') => map_any (h.tab.chg0 c) (vaOf p) (ownP f) (vaOf_lt p hp).1 (vaOf_lt p hp).2 (ent_own.ok f hf) (ent_own.right f) (ent_own.leaf f) h1
  rw [h2'] at HM
  have HE := Lib.hid fun w' => ent_own.call f hf w'
  have H := Lib.hid h
  obtain ⟨T', hT'⟩ : ∃ T', (mapF s.root s.tst (vaOf p) (ownP f)).2 = T' := ⟨_, rfl⟩
  rw [hT'] at HM ⊢
  obtain ⟨V, hV⟩ : ∃ V, vaOf (p : Int) = V := ⟨_, rfl⟩
  rw [hV] at HV HM
  obtain ⟨⟨ev, er, ew, ex, eu, eg, ea, ed, ers, epp⟩, hE⟩ : ∃ E', ownP f = E' := ⟨_, rfl⟩
  rw [hE] at HM HE
  dsimp only at HM HE
  obtain ⟨i0, hi0, hz0, hz1, hz2⟩ := info_parts RIGHTi
  have hl : ∀ w', Chg NoB w w' → (Instr.lookup 82 (.map (some L.rb)) (.int .i64 p) false).run Tryz.prog w' = .ok (.int .i64 0) w' := fun w' c => by
    have := run_look1 (P := Tryz.prog) Tryz.underlying82 Tryz.underlying3 hi0 hz0 (h.ri.chg c id) p
    rw [rim_look] at this
    rw [this]
    unfold rightOf at hr
    cases hq : (s.rights.find? fun x => x.1 == (p : Int)) with
    | none => rfl
    | some x =>
      rw [hq] at hr
      have hr : x.2 = 0 := hr
      rw [show x = (x.1, x.2) from rfl, hr]
      rfl
  have f5 : ∀ w', Chg NoB w w' → w'.cell? ⟨L.pb, 5, none⟩ = some (.pointer (some ⟨L.tb, 0, none⟩)) := fun w' c => (c.blk0 h.blk).cell' rfl
  have f11 : ∀ w', Chg NoB w w' → w'.cell? ⟨L.pb, 11, none⟩ = some (.map (some L.rb)) := fun w' c => (c.blk0 h.blk).cell' rfl
  have fl := h.blk.everL
  have cc := Chg.refl NoB w
  clear h hR h1 h2 h2' hV hr hT' hE hi0 hz0 hz1 hz2
  go_enter Tryz.func90, Tryz.ntmps90
  go_upto_region 8 with fail
  refine wp_region_mix 9 [(true, 0), (true, 1), (true, 2), (true, 3), (true, 4), (true, 6), (true, 7), (false, 5), (false, 8)] (fun w' => Chg NoB w w') (by kernel_rfl) (by kernel_rfl) (fun _ _ _ _ _ h => h) (cc.drew) ?_
  simp only [pickMix_nil, pickMix_cons, Option.getD_some, List.getElem?_toArray, List.getElem?_cons_zero, List.getElem?_cons_succ, List.cons_append, List.nil_append, List.drop_succ_cons, List.drop_zero]
  iterate 7
   refine wpMix_take rfl ?_
   apply Exists.intro
   refine ⟨fun wS hS => ?_, ?_⟩
   · try dsimp only at hS
     have cS := hS
     go_simp
     try rfl
   simp only [Act.put, List.setIfInBounds_toArray, List.set_cons_zero, List.set_cons_succ]
  refine wpMix_force rfl (fun K hK => ?_)
  go_simp
  refine (HV.out _).mono ?_
  rintro e wd ⟨rfl, hwd⟩
  subst hwd
  refine hK _ _ cc.drew ?_
  clear hK K
  refine wpMix_force rfl (fun K hK => ?_)
  go_simp
  refine (HE.out _).mono ?_
  rintro e wd ⟨rfl, hCd⟩
  have cd := cc.drew.step hCd
  refine hK _ _ cd ?_
  clear hK K hCd
  refine wpMix_nil ?_
  go_wp2_with fail
  refine (HM.out _ cd).mono ?_
  rintro e w1 ⟨rfl, ht, c⟩
  have HX := Lib.hid (H.out.retab (w' := w1) (ht.grow3 H.out.tab cd.size) ((cd.mono (S' := TS L.SM L.sb L.mp L.tb) fun _ _ e => e.elim).step c))
  clear ht c cd
  go_wp2_with fail
  go_ret
  exact ⟨rfl, HX.out⟩
set_option maxHeartbeats 2000000 in
set_option maxRecDepth 100000 in
theorem remap_ch1 {w : World} {L : Pl} {s : Spc} (h : SpAt w L s) (p f : Nat) (hp : p ≤ 65536) (hf : f < 17592186044416) (hR : RemOk s p f 1) (hr : rightOf s p ≠ 0) :
    Calls Tryz.prog 90 #[.pointer (some ⟨L.pb, 0, none⟩), .int .i64 p, .int .i64 f, .int .i64 1] w (RetW (.int .i64 0) fun w' => SpAt w' (L.grow w w') (remapF s p f 1).2 ∧ Chg L.All w w') := by
  obtain ⟨P, pos, h1, h2, h3⟩ := hR.ch (by decide) hr
  have HRF : Hid ((remapF s p f 1).2 = s.withT { s.tst with b := putW s.u.b pos 8 (pteW (readP f)) }) := Lib.hid (by
    unfold remapF
    rw [if_neg (by decide), if_neg hr]
    unfold changeF
    dsimp only
    rw [h1]
    have hm : mayL (readP f) 0 = true := by unfold mayL; rw [pteG_W (ent_read.ok f hf), decide_eq_true rfl, ent_read.right f, ent_read.leaf f, show evenB (readP f).ppn 0 = true from decide_eq_true (Nat.mod_one _)]; rfl
    have hm' : mayL (readP f) ((0 : Int).toNat) = true := hm
    have hE' : (if (1 : Int) = 2 then ownP f else readP f) = readP f := rfl
    simp only [hE']
    simp only [ne_eq, not_true_eq_false, if_false]
    try simp only [if_true]
    rw [hm']
    rfl)
  rw [HRF.out]
  have HV := Lib.hid fun w' => va_any p hp w'
  have HM := Lib.hid fun w' (c : Chg NoB w w') => change_any (h.tab.chg0 c) (vaOf p) (readP f) P pos (vaOf_lt p hp).1 h.rtl (ent_read.ok f hf) (ent_read.right f) (ent_read.leaf f) h1 h2 h3
  have HE := Lib.hid fun w' => ent_read.call f hf w'
  have H := Lib.hid h
  obtain ⟨V, hV⟩ : ∃ V, vaOf (p : Int) = V := ⟨_, rfl⟩
  rw [hV] at HV HM
  obtain ⟨⟨ev, er, ew, ex, eu, eg, ea, ed, ers, epp⟩, hE⟩ : ∃ E', readP f = E' := ⟨_, rfl⟩
  rw [hE] at HM HE ⊢
  dsimp only at HM HE
  obtain ⟨i0, hi0, hz0, hz1, hz2⟩ := info_parts RIGHTi
  obtain ⟨q, hq0⟩ : ∃ q, rightOf s p = q := ⟨_, rfl⟩
  have hqn : (q == 0) = false := by rw [beq_eq_false_iff_ne, ← hq0]; exact hr
  have hl : ∀ w', Chg NoB w w' → (Instr.lookup 82 (.map (some L.rb)) (.int .i64 p) false).run Tryz.prog w' = .ok (.int .i64 q) w' := fun w' c => by
    have := run_look1 (P := Tryz.prog) Tryz.underlying82 Tryz.underlying3 hi0 hz0 (h.ri.chg c id) p
    rw [rim_look] at this
    rw [this, ← hq0]
    unfold rightOf
    cases hq : (s.rights.find? fun x => x.1 == (p : Int)) with
    | none => rfl
    | some x => rfl
  have f5 : ∀ w', Chg NoB w w' → w'.cell? ⟨L.pb, 5, none⟩ = some (.pointer (some ⟨L.tb, 0, none⟩)) := fun w' c => (c.blk0 h.blk).cell' rfl
  have f11 : ∀ w', Chg NoB w w' → w'.cell? ⟨L.pb, 11, none⟩ = some (.map (some L.rb)) := fun w' c => (c.blk0 h.blk).cell' rfl
  have fl := h.blk.everL
  have cc := Chg.refl NoB w
  clear h hR h1 h2 h3 hV hr hE hi0 hz0 hz1 hz2 hq0
  go_enter Tryz.func90, Tryz.ntmps90
  go_upto_region 9 with fail
  refine wp_region_mix 9 [(true, 0), (true, 1), (true, 2), (true, 3), (true, 4), (true, 6), (true, 7), (false, 5), (false, 8)] (fun w' => Chg NoB w w') (by kernel_rfl) (by kernel_rfl) (fun _ _ _ _ _ h => h) (cc.drew) ?_
  simp only [pickMix_nil, pickMix_cons, Option.getD_some, List.getElem?_toArray, List.getElem?_cons_zero, List.getElem?_cons_succ, List.cons_append, List.nil_append, List.drop_succ_cons, List.drop_zero]
  iterate 7
   refine wpMix_take rfl ?_
   apply Exists.intro
   refine ⟨fun wS hS => ?_, ?_⟩
   · try dsimp only at hS
     have cS := hS
     go_simp
     try rfl
   simp only [Act.put, List.setIfInBounds_toArray, List.set_cons_zero, List.set_cons_succ]
  refine wpMix_force rfl (fun K hK => ?_)
  go_simp
  refine (HV.out _).mono ?_
  rintro e wd ⟨rfl, hwd⟩
  subst hwd
  refine hK _ _ cc.drew ?_
  clear hK K
  refine wpMix_force rfl (fun K hK => ?_)
  go_simp
  refine (HE.out _).mono ?_
  rintro e wd ⟨rfl, hCd⟩
  have cd := cc.drew.step hCd
  refine hK _ _ cd ?_
  clear hK K hCd
  refine wpMix_nil ?_
  go_wp2_with fail
  refine (HM.out _ cd).mono ?_
  rintro e w1 ⟨rfl, ht, c⟩
  have HX := Lib.hid (H.out.retab (w' := w1) (ht.grow3 H.out.tab cd.size) ((cd.mono (S' := TS L.SM L.sb L.mp L.tb) fun _ _ e => e.elim).step c))
  clear ht c cd
  go_wp2_with fail
  go_ret
  exact ⟨rfl, HX.out⟩
set_option maxHeartbeats 2000000 in
set_option maxRecDepth 100000 in
theorem remap_ch2 {w : World} {L : Pl} {s : Spc} (h : SpAt w L s) (p f : Nat) (hp : p ≤ 65536) (hf : f < 17592186044416) (hR : RemOk s p f 2) (hr : rightOf s p ≠ 0) :
    Calls Tryz.prog 90 #[.pointer (some ⟨L.pb, 0, none⟩), .int .i64 p, .int .i64 f, .int .i64 2] w (RetW (.int .i64 0) fun w' => SpAt w' (L.grow w w') (remapF s p f 2).2 ∧ Chg L.All w w') := by
  obtain ⟨P, pos, h1, h2, h3⟩ := hR.ch (by decide) hr
  have HRF : Hid ((remapF s p f 2).2 = s.withT { s.tst with b := putW s.u.b pos 8 (pteW (ownP f)) }) := Lib.hid (by
    unfold remapF
    rw [if_neg (by decide), if_neg hr]
    unfold changeF
    dsimp only
    rw [h1]
    have hm : mayL (ownP f) 0 = true := by unfold mayL; rw [pteG_W (ent_own.ok f hf), decide_eq_true rfl, ent_own.right f, ent_own.leaf f, show evenB (ownP f).ppn 0 = true from decide_eq_true (Nat.mod_one _)]; rfl
    have hm' : mayL (ownP f) ((0 : Int).toNat) = true := hm
    have hE' : (if (2 : Int) = 2 then ownP f else readP f) = ownP f := rfl
    simp only [hE']
    simp only [ne_eq, not_true_eq_false, if_false]
    try simp only [if_true]
    rw [hm']
    rfl)
  rw [HRF.out]
  have HV := Lib.hid fun w' => va_any p hp w'
  have HM := Lib.hid fun w' (c : Chg NoB w w') => change_any (h.tab.chg0 c) (vaOf p) (ownP f) P pos (vaOf_lt p hp).1 h.rtl (ent_own.ok f hf) (ent_own.right f) (ent_own.leaf f) h1 h2 h3
  have HE := Lib.hid fun w' => ent_own.call f hf w'
  have H := Lib.hid h
  obtain ⟨V, hV⟩ : ∃ V, vaOf (p : Int) = V := ⟨_, rfl⟩
  rw [hV] at HV HM
  obtain ⟨⟨ev, er, ew, ex, eu, eg, ea, ed, ers, epp⟩, hE⟩ : ∃ E', ownP f = E' := ⟨_, rfl⟩
  rw [hE] at HM HE ⊢
  dsimp only at HM HE
  obtain ⟨i0, hi0, hz0, hz1, hz2⟩ := info_parts RIGHTi
  obtain ⟨q, hq0⟩ : ∃ q, rightOf s p = q := ⟨_, rfl⟩
  have hqn : (q == 0) = false := by rw [beq_eq_false_iff_ne, ← hq0]; exact hr
  have hl : ∀ w', Chg NoB w w' → (Instr.lookup 82 (.map (some L.rb)) (.int .i64 p) false).run Tryz.prog w' = .ok (.int .i64 q) w' := fun w' c => by
    have := run_look1 (P := Tryz.prog) Tryz.underlying82 Tryz.underlying3 hi0 hz0 (h.ri.chg c id) p
    rw [rim_look] at this
    rw [this, ← hq0]
    unfold rightOf
    cases hq : (s.rights.find? fun x => x.1 == (p : Int)) with
    | none => rfl
    | some x => rfl
  have f5 : ∀ w', Chg NoB w w' → w'.cell? ⟨L.pb, 5, none⟩ = some (.pointer (some ⟨L.tb, 0, none⟩)) := fun w' c => (c.blk0 h.blk).cell' rfl
  have f11 : ∀ w', Chg NoB w w' → w'.cell? ⟨L.pb, 11, none⟩ = some (.map (some L.rb)) := fun w' c => (c.blk0 h.blk).cell' rfl
  have fl := h.blk.everL
  have cc := Chg.refl NoB w
  clear h hR h1 h2 h3 hV hr hE hi0 hz0 hz1 hz2 hq0
  go_enter Tryz.func90, Tryz.ntmps90
  go_upto_region 9 with fail
  refine wp_region_mix 9 [(true, 0), (true, 1), (true, 2), (true, 3), (true, 4), (true, 6), (true, 7), (false, 5), (false, 8)] (fun w' => Chg NoB w w') (by kernel_rfl) (by kernel_rfl) (fun _ _ _ _ _ h => h) (cc.drew) ?_
  simp only [pickMix_nil, pickMix_cons, Option.getD_some, List.getElem?_toArray, List.getElem?_cons_zero, List.getElem?_cons_succ, List.cons_append, List.nil_append, List.drop_succ_cons, List.drop_zero]
  iterate 7
   refine wpMix_take rfl ?_
   apply Exists.intro
   refine ⟨fun wS hS => ?_, ?_⟩
   · try dsimp only at hS
     have cS := hS
     go_simp
     try rfl
   simp only [Act.put, List.setIfInBounds_toArray, List.set_cons_zero, List.set_cons_succ]
  refine wpMix_force rfl (fun K hK => ?_)
  go_simp
  refine (HV.out _).mono ?_
  rintro e wd ⟨rfl, hwd⟩
  subst hwd
  refine hK _ _ cc.drew ?_
  clear hK K
  refine wpMix_force rfl (fun K hK => ?_)
  go_simp
  refine (HE.out _).mono ?_
  rintro e wd ⟨rfl, hCd⟩
  have cd := cc.drew.step hCd
  refine hK _ _ cd ?_
  clear hK K hCd
  refine wpMix_nil ?_
  go_wp2_with fail
  refine (HM.out _ cd).mono ?_
  rintro e w1 ⟨rfl, ht, c⟩
  have HX := Lib.hid (H.out.retab (w' := w1) (ht.grow3 H.out.tab cd.size) ((cd.mono (S' := TS L.SM L.sb L.mp L.tb) fun _ _ e => e.elim).step c))
  clear ht c cd
  go_wp2_with fail
  go_ret
  exact ⟨rfl, HX.out⟩
/-- A page is mapped anew, with any right. -/
theorem remap_any {w : World} {L : Pl} {s : Spc} (h : SpAt w L s) (p f : Nat) (r : Int) (hp : p ≤ 65536) (hf : f < 17592186044416) (h0 : 0 ≤ r) (h2 : r ≤ 2) (hR : RemOk s p f r) :
    Calls Tryz.prog 90 #[.pointer (some ⟨L.pb, 0, none⟩), .int .i64 p, .int .i64 f, .int .i64 r] w (RetW (.int .i64 0) fun w' => SpAt w' (L.grow w w') (remapF s p f r).2 ∧ Chg L.All w w') := by
  rcases (show r = 0 ∨ r = 1 ∨ r = 2 by omega) with rfl | rfl | rfl
  · exact remap_un h p f hp hf hR
  · by_cases hr : rightOf s p = 0
    · exact remap_map1 h p f hp hf hR hr
    · exact remap_ch1 h p f hp hf hR hr
  · by_cases hr : rightOf s p = 0
    · exact remap_map2 h p f hp hf hR hr
    · exact remap_ch2 h p f hp hf hR hr
end Go.Proofs.YtdjaeoeejcmhdaaGreatDoor
