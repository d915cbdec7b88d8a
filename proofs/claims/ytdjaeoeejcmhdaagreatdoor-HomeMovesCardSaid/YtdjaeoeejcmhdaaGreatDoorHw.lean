/- Homes that talk: done, and what serves access and done alike. No condition. Homes that talk: an access. No condition. -/
import Derived.Test.YtdjaeoeejcmhdaaGreatDoorHv
import Derived.Test.YtdjaeoeejcmhdaaGreatDoorHn
import Derived.Test.YtdjaeoeejcmhdaaGreatDoorHb
set_option linter.unusedVariables false
set_option linter.unusedSimpArgs false
namespace Go.Proofs.YtdjaeoeejcmhdaaGreatDoor
open Go.RowKit Go.RR
theorem hm_pg {w : World} {S : Nat → Prop} {hb spb p pb : Nat} {me n : Int} {ps : List (Int × Nat × PgS)} {st : PgS} (h : HmN w S hb spb me n 0 2 ps) (hlk : hLook ps p = some (pb, st)) (hlt : ∀ k, S k → k < w.heap.size) :
    ∃ R : Nat, S pb ∧ S R ∧ Blk w pb (pgCx me p st R (.slice none 0 0) false) 128 ∧ ∀ w', Chg NoB w w' → PgN w' (fun k => k = pb ∨ k = R) pb me p st ∧ ∀ k, k = pb ∨ k = R → k < w'.heap.size := by
  obtain ⟨R, r1, r2⟩ := h.pg
  obtain ⟨y1, y2, y3, y4⟩ := r1 _ (hLook_mem hlk)
  replace y1 : S pb := y1
  replace y2 : S (R pb) := y2
  refine ⟨R pb, y1, y2, y3, fun w' c => ⟨⟨.inl rfl, R pb, .inr rfl, c.blk0 y3, c.blk0 y4⟩, fun k hk => ?_⟩⟩
  have := c.size
  rcases hk with rfl | rfl
  · have := hlt _ y1; omega
  · have := hlt _ y2; omega
theorem hm_put {w w3 : World} {S S2 : Nat → Prop} {hb spb p pb R : Nat} {me n : Int} {ps : List (Int × Nat × PgS)} {st st' : PgS} (h : HmN w S hb spb me n 0 2 ps) (hlk : hLook ps p = some (pb, st)) (hlt : ∀ k, S k → k < w.heap.size) (hR : Blk w pb (pgCx me p st R (.slice none 0 0) false) 128)
    (hS2 : ∀ k, S2 k → (k = pb ∨ k = R) ∨ w.heap.size ≤ k) (hP : PgN w3 S2 pb me p st') (c : Chg (fun k => k = pb ∨ k = R) w w3) :
    ∃ S3 : Nat → Prop, HmN w3 S3 hb spb me n 0 2 (hPut ps pb st') ∧ (∀ k, S3 k → S k ∨ w.heap.size ≤ k) ∧ (∀ k, S3 k → k < w3.heap.size) := by
  have hz := c.size
  have hP2 : PgN w3 (fun k => S2 k ∧ k < w3.heap.size) pb me p st' := by
    obtain ⟨rb, q1, q2, q3⟩ := hP.ex
    exact ⟨⟨hP.s, q2.lt⟩, rb, ⟨q1, q3.lt⟩, q2, q3⟩
  refine ⟨_, h.put hlt (hLook_mem hlk) (SP := fun k => k = pb ∨ k = R) (fun k hk => ?_) (fun k hk => hS2 k hk.1) hP2 c (fun k hk => hk.2), fun k hk => ?_, fun k hk => ?_⟩
  · rcases hk with e | e
    · exact .inl e
    · exact .inr ⟨R, hR, e⟩
  · rcases hk with hk | hk
    · exact .inl hk
    · exact .inr hk.1
  · rcases hk with hk | hk
    · have := hlt k hk; omega
    · exact hk.2.1
/-- What a node shows when its home has done what a page's turn says. -/
theorem ndv_fin {w w3 w4 : World} {F SH S3 SP4 : Nat → Prop} {hb me n p pb : Nat} {L0 L' : Pl} {s1 : Spc} {S : Nat → PgS} {C : Nat → By} {cp : By} {ps1 : List (Int × Nat × PgS)} {st st' : PgS} {lts : List Lt} {v4 : Value} (hp : p < 2) (hF : ∀ k, SH k ∨ L0.All k → F k) (hby : ∀ q, ByOk (C q)) (hcp : C p = cp)
    (p2 : SV s1 (fun q => (S q).right) C) (so2 : SV (setF s1 p st'.right).2 (updG (fun q => (S q).right) p st'.right) C) (hH3 : HmN w3 S3 hb L0.pb me n 0 2 (hPut ps1 pb st')) (hS3a : ∀ k, S3 k → SH k ∨ w.heap.size ≤ k) (hS3b : ∀ k, S3 k → k < w3.heap.size) (hS3L : ∀ k, S3 k → ¬ L0.All k)
    (hlk : hLook ps1 p = some (pb, st)) (nd : (ps1.map (·.2.1)).Nodup) (hps1 : ∀ q : Nat, q < 2 → S q = pst ps1 me n q) (hC03 : Chg F w w3) (hE4 : Ext L0 L' w3) (hS4 : SpAt w4 L' (setF s1 p st'.right).2) (hPo4 : PosAt w4 SP4 v4 p (lts.map (poOf (dataF s1 p)))) (hSP4 : ∀ k, SP4 k → w3.heap.size ≤ k ∧ k < w4.heap.size ∧ ¬ L'.All k) (hC4 : Chg L0.All w3 w4) :
    ∃ F' SP : Nat → Prop, NdV w4 F' hb L0.pb me n (updG S p st') C ∧ PosAt w4 SP v4 p (lts.map (poOf cp)) ∧ (∀ k, F' k → F k ∨ w.heap.size ≤ k) ∧ (∀ k, SP k → w.heap.size ≤ k ∧ k < w4.heap.size ∧ ¬ F' k) ∧ Chg F w w4 := by
  have hz4 := hC4.size
  have hz3 := hC03.size
  have hCh : Chg F w w4 := hC03.trans hC4 fun k _ e => hF k (.inr e)
  refine ⟨fun k => S3 k ∨ L'.All k, SP4, ⟨⟨S3, L', _, _, hE4.1, by rw [hE4.1]; exact hH3.chg hC4 hS3L, hS4, so2.congr (fun q hq => ?_) (fun _ _ _ _ => rfl), fun k hk e => ?_, fun _ => id, fun q hq => ?_⟩, fun k hk => ?_, hby⟩, posAt_congr (fun i hi => ?_) (hcp ▸ hby p) hPo4, fun k hk => ?_, fun k hk => ?_, hCh⟩
  · by_cases e : q = p
    · rw [e, updG_at, updG_at]
    · rw [updG_ne _ _ e, updG_ne _ _ e]
  · rcases hE4.2.2 k e with e | e
    · exact hS3L k hk e
    · have := hS3b k hk; omega
  · rw [pst_put hlk nd]
    by_cases e : q = p
    · rw [e, updG_at, if_pos rfl]
    · rw [updG_ne _ _ e, if_neg e]; exact hps1 q hq
  · rcases hk with hk | hk
    · have := hS3b k hk; omega
    · exact hS4.lt k hk
  · rw [← hcp]; exact p2.ct p hp i hi
  · rcases hk with hk | hk
    · exact (hS3a k hk).imp (fun e => hF k (.inl e)) id
    · exact (hE4.2.2 k hk).imp (fun e => hF k (.inr e)) fun e => by omega
  · obtain ⟨y1, y2, y3⟩ := hSP4 k hk
    refine ⟨by omega, y2, fun e => ?_⟩
    rcases e with e | e
    · have := hS3b k e; omega
    · exact y3 e
theorem done_lay {me : Int} {st : PgS} : (doneF me st).lay = false := by
  unfold doneF
  split
  · rfl
  · split <;> rfl
theorem done_nil {me : Int} {st : PgS} (hf : st.forget < 0) : (doneF me st).l = [] ∧ (doneF me st).s.right = st.right := by
  unfold doneF
  split
  · exact ⟨rfl, rfl⟩
  · rw [if_neg (by omega)]; exact ⟨rfl, rfl⟩
set_option maxHeartbeats 4000000 in
set_option maxRecDepth 100000 in
theorem hDone24 {w : World} {F : Nat → Prop} {hb spb me n : Nat} {S : Nat → PgS} {C : Nat → By} (h : NdV w F hb spb me n S C) (hn : 2 ≤ n) (hn5 : n ≤ 5) (hme : me < n) (p : Nat) (hp : p < 2) (hf : (S p).forget < 0) :
    Calls Tryz.prog 11 #[.pointer (some ⟨hb, 0, none⟩), .int .i64 p] w
      (RetV fun v w' => ∃ F' SP : Nat → Prop, NdV w' F' hb spb me n (updG S p (doneF me (S p)).s) C ∧
        PosAt w' SP v p ((doneF me (S p)).l.map (poOf (C p))) ∧ (∀ k, F' k → F k ∨ w.heap.size ≤ k) ∧ (∀ k, SP k → w.heap.size ≤ k ∧ k < w'.heap.size ∧ ¬ F' k) ∧ Chg F w w') := by
  obtain ⟨SH, L0, s, ps, rfl, hH, hS, hV, hap, hF, hps⟩ := h.ex
  obtain ⟨t, ht⟩ : ∃ t, doneF me (S p) = t := ⟨_, rfl⟩
  rw [ht]
  have HT := Lib.hid ht
  have HPg := Lib.hid (hpage_n hH (fun k hk => h.lt k (hF k (.inl hk))) p (by omega) (by omega) (by omega) (by omega) (by omega))
  have HFct := Lib.hid (And.intro hS (And.intro hV (And.intro hap (And.intro hF (And.intro hps (And.intro h.lt (And.intro h.by' hp)))))))
  have HN := Lib.hid (And.intro hn (And.intro hn5 (And.intro hme hf)))
  clear h hS hV hap hF hps hn hn5 hme hp hH hf ht
  go_enter Tryz.func11, Tryz.ntmps11
  go_wp2_with fail
  refine HPg.out.mono ?_
  rintro e w1 ⟨v, rfl, pb, st, ps1, S1, rfl, hH1, hlk, hor, hS1, hlt1, hC1⟩
  have hstp : st = S p ∧ ∀ q : Nat, q < 2 → S q = pst ps1 me n q := by
    have hps := HFct.out.2.2.2.2.1
    have hp := HFct.out.2.2.2.2.2.2.2
    rcases hor with ⟨rfl, e⟩ | ⟨e1, e2, e3⟩
    · exact ⟨((hps p hp).trans (pst_some e)).symm, hps⟩
    · refine ⟨?_, fun q hq => ?_⟩
      · rw [hps p hp, e2]; unfold pst; rw [e1]
      · rw [e3, e2, pst_app e1]; exact hps q hq
  obtain ⟨rfl, hps1⟩ := hstp
  obtain ⟨R, r1, r2, r3, r4⟩ := hm_pg hH1 hlk hlt1
  obtain ⟨hPN, hPlt⟩ := r4 w1 (Chg.refl NoB w1)
  have HDn := Lib.hid (done_any hPN.toT hPlt HN.out.2.2.2)
  rw [HT.out] at HDn
  have HS1 := Lib.hid (HFct.out.1.chg hC1 fun k hk e => HFct.out.2.2.1 k e hk)
  have HH1 := Lib.hid (And.intro hH1 (And.intro hlk (And.intro hps1 (And.intro hS1 (And.intro hlt1 (And.intro hC1 (And.intro r1 (And.intro r2 r3))))))))
  clear hH1 hlk hor hS1 hlt1 hC1 hps1 r1 r2 r3 r4 hPN hPlt HPg
  go_wp2_with fail
  refine HDn.out.mono ?_
  rintro e w3 ⟨v3, rfl, pp, pc, SL, S2, rfl, hSL, hS2, hO, hPN, hC3⟩
  have hlay : t.lay = false := by rw [← HT.out]; exact done_lay
  have HFin : Hid (∃ S3 : Nat → Prop, HmN w3 S3 hb L0.pb me n 0 2 (hPut ps1 pb t.s) ∧ (∀ k, S3 k → SH k ∨ w.heap.size ≤ k) ∧ (∀ k, S3 k → k < w3.heap.size) ∧ (∀ k, S3 k → ¬ L0.All k) ∧ Chg F w w3 ∧ SpAt w3 L0 s ∧ ∀ k, SL k → ¬ L0.All k) := Lib.hid (by
    obtain ⟨hH1, hlk, hps1, hS1, hlt1, hC1, r1, r2, r3⟩ := HH1.out
    obtain ⟨hS, hV, hap, hF, hps, hlt, hby, hp⟩ := HFct.out
    obtain ⟨S3, a1, a2, a3⟩ := hm_put hH1 hlk hlt1 r3 hS2 hPN hC3
    have hL0 : ∀ k, L0.All k → k < w.heap.size := fun k hk => hlt k (hF k (.inr hk))
    have hz1 := hC1.size
    have hPb : ∀ k, k = pb ∨ k = R → S1 k := fun k hk => by
      rcases hk with rfl | rfl
      · exact r1
      · exact r2
    have hS1L : ∀ k, S1 k → ¬ L0.All k := fun k hk e => by
      rcases hS1 k hk with q | q
      · exact hap k q e
      · have := hL0 k e; omega
    have a2' : ∀ k, S3 k → SH k ∨ w.heap.size ≤ k := fun k hk => (a2 k hk).elim (hS1 k) fun e => .inr (by omega)
    refine ⟨S3, a1, a2', a3, fun k hk e => ?_, (hC1.mono (S' := F) fun k _ e => hF k (.inl e)).trans hC3 fun k hk e => ?_, HS1.out.chg hC3 fun k hk e => hS1L k (hPb k e) hk, fun k hk e => ?_⟩
    · rcases a2' k hk with q | q
      · exact hap k q e
      · have := hL0 k e; omega
    · rcases hS1 k (hPb k e) with q | q
      · exact hF k (.inl q)
      · omega
    · rcases (hSL k hk).1 with q | q
      · exact hS1L k (hPb k q) e
      · have := hL0 k e; omega)
  clear hSL hS2 hPN hC3
  obtain ⟨S3, hH3, hS3a, hS3b, hS3L, hC03, hS3, hSLL⟩ := HFin.out
  have hrng := HFct.out.2.1.rng p HFct.out.2.2.2.2.2.2.2
  obtain ⟨d1, d2⟩ := done_nil (me := me) HN.out.2.2.2
  rw [HT.out] at d1 d2
  obtain ⟨so1, so2⟩ := HFct.out.2.1.set HFct.out.2.2.2.2.2.2.2 (r := t.s.right) (by rw [d2]; exact hrng.1) (by rw [d2]; exact hrng.2)
  have hfr : ∀ f, frameOf s p = some f → f < s.u.fr := fun f hf => by
    obtain ⟨t1, t0, I, -⟩ := HFct.out.2.1.inv
    exact SV.frame_lt I hf
  obtain ⟨mp, -, hBk, -, -⟩ := hH3.ex
  have HDo := Lib.hid (hdo24 (dp := none) (dn := 0) (dc := 0) hBk (hS3L hb hH3.s) hS3 p t.lay t.s.right t.l (by rw [d1]; exact Nat.zero_le _) hO.sl hSLL (fun e => by rw [hlay] at e; cases e) (fun _ => rfl) so1 hfr (by rw [HFct.out.2.1.shape]; have := HFct.out.2.2.2.2.2.2.2; omega))
  have HSo := Lib.hid so2
  clear hO hlay hH3 hS3a hS3b hS3L hC03 hS3 hSLL hrng d1 d2 so1 so2 hfr hBk HDn
  go_wp2_with fail
  refine HDo.out.mono ?_
  rintro e w4 ⟨v4, rfl, L', SP4, hE4, hS4, hPo4, hSP4, hC4⟩
  have HX : Hid (∃ F' SP : Nat → Prop, NdV w4 F' hb L0.pb me n (updG S p t.s) C ∧ PosAt w4 SP v4 p (t.l.map (poOf (C p))) ∧ (∀ k, F' k → F k ∨ w.heap.size ≤ k) ∧ (∀ k, SP k → w.heap.size ≤ k ∧ k < w4.heap.size ∧ ¬ F' k) ∧ Chg F w w4) := Lib.hid (by
    obtain ⟨hH1, hlk, hps1, hS1, hlt1, hC1, r1, r2, r3⟩ := HH1.out
    obtain ⟨hS, hV, hap, hF, hps, hlt, hby, hp⟩ := HFct.out
    obtain ⟨S3', hH3, hS3a, hS3b, hS3L, hC03, hS3, hSLL⟩ := HFin.out
    exact ndv_fin hp hF hby rfl hV HSo.out hH3 hS3a hS3b hS3L hlk hH1.nd hps1 hC03 hE4 hS4 hPo4 hSP4 hC4)
  clear hE4 hS4 hPo4 hSP4 hC4
  go_wp2_with fail
  go_ret
  obtain ⟨F', SP, a, b⟩ := HX.out
  exact ⟨_, rfl, F', SP, a, b⟩
end Go.Proofs.YtdjaeoeejcmhdaaGreatDoor
set_option linter.unusedVariables false
set_option linter.unusedSimpArgs false
namespace Go.Proofs.YtdjaeoeejcmhdaaGreatDoor
open Go.RowKit Go.RR
set_option maxHeartbeats 1000000 in
set_option maxRecDepth 100000 in
theorem which_at {w : World} {L : Pl} {s : Spc} (h : SpAt w L s) (v : Nat) (n o : Int) (hv : (v : Int) = 1073741824 + 4096 * n + o) (h0 : 0 ≤ n) (o0 : 0 ≤ o) (o1 : o < 4096) (hn : n ≤ 65536) (hs : s.shape.shared ≤ 65536) (hs0 : 0 ≤ s.shape.shared) (hc : n < s.shape.shared) :
    Calls Tryz.prog 18 #[.pointer (some ⟨L.pb, 0, none⟩), .int .u64 v] w (RetW (.tuple #[.int .i64 n, .bool true]) fun w' => w' = w) := by
  obtain ⟨sh, hsh⟩ : ∃ k, s.shape.shared = k := ⟨_, rfl⟩
  have f2 := h.blk.cell' (i := 2) (v := .int .i64 s.shape.shared) rfl
  rw [hsh] at f2 hs hc hs0
  have fl := h.blk.lt
  have t1 : decide ((v : Int) < 1073741824) = false := decide_eq_false (by omega)
  have q1 : IntKind.u64.wrap ((v : Int) - 1073741824) = 4096 * n + o := by rw [IntKind.wrap_u64]; omega
  have q2 : IntKind.u64.wrap ((IntKind.u64.wrap ((v : Int) - 1073741824)).tdiv 4096) = n := by rw [q1, Int.tdiv_eq_ediv_of_nonneg (by omega), IntKind.wrap_u64]; omega
  have q3 : IntKind.u64.wrap sh = sh := by rw [IntKind.wrap_u64]; omega
  have t2 : decide (IntKind.u64.wrap sh ≤ IntKind.u64.wrap ((IntKind.u64.wrap ((v : Int) - 1073741824)).tdiv 4096)) = false := by rw [q2, q3]; exact decide_eq_false (by omega)
  have HQ : Hid (wrap64 n = n) := Lib.hid (IntWalk.wrap64_in _ (by omega))
  have HQ2 := Lib.hid q2
  clear h hsh hv h0 hn hs hc q1 q2 q3 hs0 o0 o1
  go_enter Tryz.func18, Tryz.ntmps18
  go_wp2_with fail
  rw [HQ2.out, HQ.out]
  go_ret2
  exact ⟨rfl, rfl⟩
theorem want_lay {me : Int} {st : PgS} {r : Int} : (wantF me st r).lay = false := by
  unfold wantF
  split
  · rfl
  · split
    · rfl
    · split <;> rfl
theorem gather_right {me : Int} {s : PgS} (h : 0 ≤ s.right ∧ s.right ≤ 2) : 0 ≤ (gatherF me s).1.right ∧ (gatherF me s).1.right ≤ 2 := by
  unfold gatherF
  split
  · show (0 : Int) ≤ 2 ∧ (2 : Int) ≤ 2; decide
  · exact h
theorem want_right {me : Int} {st : PgS} {r : Int} (h : 0 ≤ st.right ∧ st.right ≤ 2) : 0 ≤ (wantF me st r).s.right ∧ (wantF me st r).s.right ≤ 2 := by
  unfold wantF
  split
  · exact h
  · split
    · exact gather_right h
    · split
      · show (0 : Int) ≤ 1 ∧ (1 : Int) ≤ 2; decide
      · exact h
theorem want_len {me : Int} {st : PgS} {r : Int} : (wantF me st r).l.length ≤ 16 := by
  have nl : ∀ s : Nat, (nlistF s).length ≤ 16 := fun s => by
    unfold nlistF
    rw [List.length_map]
    exact Nat.le_trans (List.length_filter_le ..) (by simp)
  unfold wantF
  split
  · simp
  · split
    · unfold gatherF
      split
      · simp
      · rw [List.length_map]; exact nl _
    · split <;> simp
set_option maxHeartbeats 4000000 in
set_option maxRecDepth 100000 in
theorem hFault1 {w : World} {F : Nat → Prop} {hb spb me n : Nat} {S : Nat → PgS} {C : Nat → By} (h : NdV w F hb spb me n S C) (hn : 2 ≤ n) (hn5 : n ≤ 5) (hme : me < n) (p o : Nat) (hp : p < 2) (ho : o < 4096) (va : Nat) (hva : va = 1073741824 + 4096 * p + o) (hbz : (S p).busy = false) (hsm : Sm (S p)) (L : Tz24 w) (hDB : ¬ F 0) :
    Calls Tryz.prog 6 #[.pointer (some ⟨hb, 0, none⟩), .int .u64 va, .int .i64 1] w
      (RetV fun v w' => ∃ (v' : Value) (F' SP : Nat → Prop), v = .tuple #[v', .int .i64 p] ∧ NdV w' F' hb spb me n (updG S p (wantF me (S p) 1).s) C ∧
        PosAt w' SP v' p ((wantF me (S p) 1).l.map (poOf (C p))) ∧ (∀ k, F' k → F k ∨ w.heap.size ≤ k) ∧ (∀ k, SP k → w.heap.size ≤ k ∧ k < w'.heap.size ∧ ¬ F' k) ∧ Chg F w w') := by
  obtain ⟨SH, L0, s, ps, rfl, hH, hS, hV, hap, hF, hps⟩ := h.ex
  obtain ⟨t, ht⟩ : ∃ t, wantF me (S p) 1 = t := ⟨_, rfl⟩
  rw [ht]
  have HT := Lib.hid ht
  obtain ⟨pn, hpn⟩ : ∃ z : Int, (p : Int) = z := ⟨_, rfl⟩
  have HPn := Lib.hid hpn
  have HPg := Lib.hid (hpage_n hH (fun k hk => h.lt k (hF k (.inl hk))) p (by omega) (by omega) (by omega) (by omega) (by omega))
  have HW := Lib.hid (which_at hS va p o (by omega) (by omega) (by omega) (by omega) (by omega) (by rw [hV.shape]; decide) (by rw [hV.shape]; decide) (by rw [hV.shape]; omega))
  have HFct := Lib.hid (And.intro hS (And.intro hV (And.intro hap (And.intro hF (And.intro hps (And.intro h.lt (And.intro h.by' hp)))))))
  have HN := Lib.hid (And.intro hn (And.intro hn5 (And.intro hme (And.intro hbz (And.intro hsm (And.intro L hDB))))))
  obtain ⟨mh, -, hBk0, -, -⟩ := hH.ex
  have f2 := hBk0.cell' (i := 2) (v := .pointer (some ⟨L0.pb, 0, none⟩)) rfl
  have fl := hBk0.lt
  clear h hS hV hap hF hps hn hn5 hme hp hH ht hva hbz hsm L hDB hBk0 ho hpn
  go_enter Tryz.func6, Tryz.ntmps6
  go_wp2_with fail
  refine HW.out.mono ?_
  rintro e w0 ⟨rfl, hw⟩
  subst hw
  go_wp2_with fail
  refine HPg.out.mono ?_
  rintro e w1 ⟨v, rfl, pb, st, ps1, S1, rfl, hH1, hlk, hor, hS1, hlt1, hC1⟩
  have hstp : st = S p ∧ ∀ q : Nat, q < 2 → S q = pst ps1 me n q := by
    have hps := HFct.out.2.2.2.2.1
    have hp := HFct.out.2.2.2.2.2.2.2
    rcases hor with ⟨rfl, e⟩ | ⟨e1, e2, e3⟩
    · exact ⟨((hps p hp).trans (pst_some e)).symm, hps⟩
    · refine ⟨?_, fun q hq => ?_⟩
      · rw [hps p hp, e2]; unfold pst; rw [e1]
      · rw [e3, e2, pst_app e1]; exact hps q hq
  obtain ⟨rfl, hps1⟩ := hstp
  obtain ⟨R, r1, r2, r3, r4⟩ := hm_pg hH1 hlk hlt1
  obtain ⟨hPN, hPlt⟩ := r4 w1 (Chg.refl NoB w1)
  have hS1F : ∀ k, S1 k → F k ∨ w0.heap.size ≤ k := fun k hk => (hS1 k hk).imp (fun e => HFct.out.2.2.2.1 k (.inl e)) id
  have hDBl : 0 < w0.heap.size := World.block_lt_of_cell? w0 _ HN.out.2.2.2.2.2.1.c0
  have HDn := Lib.hid (want_any hPN.toT hPlt HN.out.2.2.2.1 1 (by decide) (HN.out.2.2.2.2.2.1.chg hC1 fun e => HN.out.2.2.2.2.2.2 (HFct.out.2.2.2.1 _ (.inl e))) (fun e => by
    rcases hS1F _ r1 with q | q
    · exact HN.out.2.2.2.2.2.2 (e ▸ q)
    · omega) HN.out.2.2.2.2.1.1)
  rw [HT.out] at HDn
  have HS1 := Lib.hid (HFct.out.1.chg hC1 fun k hk e => HFct.out.2.2.1 k e hk)
  have HH1 := Lib.hid (And.intro hH1 (And.intro hlk (And.intro hps1 (And.intro hS1 (And.intro hlt1 (And.intro hC1 (And.intro r1 (And.intro r2 r3))))))))
  clear hH1 hlk hor hS1 hlt1 hC1 hps1 r1 r2 r3 r4 hPN hPlt HPg hS1F hDBl f2 fl
  go_wp2_with fail
  refine HDn.out.mono ?_
  rintro e w3 ⟨v3, rfl, pp, pc, SL, S2, rfl, hSL, hS2, hO, hPN, hC3⟩
  have hlay : t.lay = false := by rw [← HT.out]; exact want_lay
  have HFin : Hid (∃ S3 : Nat → Prop, HmN w3 S3 hb L0.pb me n 0 2 (hPut ps1 pb t.s) ∧ (∀ k, S3 k → SH k ∨ w0.heap.size ≤ k) ∧ (∀ k, S3 k → k < w3.heap.size) ∧ (∀ k, S3 k → ¬ L0.All k) ∧ Chg F w0 w3 ∧ SpAt w3 L0 s ∧ ∀ k, SL k → ¬ L0.All k) := Lib.hid (by
    obtain ⟨hH1, hlk, hps1, hS1, hlt1, hC1, r1, r2, r3⟩ := HH1.out
    obtain ⟨hS, hV, hap, hF, hps, hlt, hby, hp⟩ := HFct.out
    obtain ⟨S3, a1, a2, a3⟩ := hm_put hH1 hlk hlt1 r3 hS2 hPN hC3
    have hL0 : ∀ k, L0.All k → k < w0.heap.size := fun k hk => hlt k (hF k (.inr hk))
    have hz1 := hC1.size
    have hPb : ∀ k, k = pb ∨ k = R → S1 k := fun k hk => by
      rcases hk with rfl | rfl
      · exact r1
      · exact r2
    have hS1L : ∀ k, S1 k → ¬ L0.All k := fun k hk e => by
      rcases hS1 k hk with q | q
      · exact hap k q e
      · have := hL0 k e; omega
    have a2' : ∀ k, S3 k → SH k ∨ w0.heap.size ≤ k := fun k hk => (a2 k hk).elim (hS1 k) fun e => .inr (by omega)
    refine ⟨S3, a1, a2', a3, fun k hk e => ?_, (hC1.mono (S' := F) fun k _ e => hF k (.inl e)).trans hC3 fun k hk e => ?_, HS1.out.chg hC3 fun k hk e => hS1L k (hPb k e) hk, fun k hk e => ?_⟩
    · rcases a2' k hk with q | q
      · exact hap k q e
      · have := hL0 k e; omega
    · rcases hS1 k (hPb k e) with q | q
      · exact hF k (.inl q)
      · omega
    · rcases (hSL k hk).1 with q | q
      · exact hS1L k (hPb k q) e
      · have := hL0 k e; omega)
  clear hSL hS2 hPN hC3
  obtain ⟨S3, hH3, hS3a, hS3b, hS3L, hC03, hS3, hSLL⟩ := HFin.out
  have hrng := HFct.out.2.1.rng p HFct.out.2.2.2.2.2.2.2
  have hrg : 0 ≤ t.s.right ∧ t.s.right ≤ 2 := by rw [← HT.out]; exact want_right hrng
  obtain ⟨so1, so2⟩ := HFct.out.2.1.set HFct.out.2.2.2.2.2.2.2 hrg.1 hrg.2
  have hfr : ∀ f, frameOf s p = some f → f < s.u.fr := fun f hf => by
    obtain ⟨t1, t0, I, -⟩ := HFct.out.2.1.inv
    exact SV.frame_lt I hf
  obtain ⟨mp, -, hBk, -, -⟩ := hH3.ex
  have HDo := Lib.hid (hdo24 (dp := none) (dn := 0) (dc := 0) hBk (hS3L hb hH3.s) hS3 p t.lay t.s.right t.l (by rw [← HT.out]; exact Nat.le_trans want_len (by decide)) hO.sl hSLL (fun e => by rw [hlay] at e; cases e) (fun _ => rfl) so1 hfr (by rw [HFct.out.2.1.shape]; have := HFct.out.2.2.2.2.2.2.2; omega))
  have HSo := Lib.hid so2
  clear hO hlay hH3 hS3a hS3b hS3L hC03 hS3 hSLL hrng hrg so1 so2 hfr hBk HDn
  go_wp2_with fail
  refine HDo.out.mono ?_
  rintro e w4 ⟨v4, rfl, L', SP4, hE4, hS4, hPo4, hSP4, hC4⟩
  have HX : Hid (∃ F' SP : Nat → Prop, NdV w4 F' hb L0.pb me n (updG S p t.s) C ∧ PosAt w4 SP v4 p (t.l.map (poOf (C p))) ∧ (∀ k, F' k → F k ∨ w0.heap.size ≤ k) ∧ (∀ k, SP k → w0.heap.size ≤ k ∧ k < w4.heap.size ∧ ¬ F' k) ∧ Chg F w0 w4) := Lib.hid (by
    obtain ⟨hH1, hlk, hps1, hS1, hlt1, hC1, r1, r2, r3⟩ := HH1.out
    obtain ⟨hS, hV, hap, hF, hps, hlt, hby, hp⟩ := HFct.out
    obtain ⟨S3', hH3, hS3a, hS3b, hS3L, hC03, hS3, hSLL⟩ := HFin.out
    exact ndv_fin hp hF hby rfl hV HSo.out hH3 hS3a hS3b hS3L hlk hH1.nd hps1 hC03 hE4 hS4 hPo4 hSP4 hC4)
  clear hE4 hS4 hPo4 hSP4 hC4
  go_wp2_with fail
  go_ret2
  obtain ⟨F', SP, a, b⟩ := HX.out
  exact ⟨_, rfl, v4, F', SP, rfl, a, b⟩
set_option maxHeartbeats 4000000 in
set_option maxRecDepth 100000 in
theorem hFault2 {w : World} {F : Nat → Prop} {hb spb me n : Nat} {S : Nat → PgS} {C : Nat → By} (h : NdV w F hb spb me n S C) (hn : 2 ≤ n) (hn5 : n ≤ 5) (hme : me < n) (p o : Nat) (hp : p < 2) (ho : o < 4096) (va : Nat) (hva : va = 1073741824 + 4096 * p + o) (hbz : (S p).busy = false) (hsm : Sm (S p)) (L : Tz24 w) (hDB : ¬ F 0) :
    Calls Tryz.prog 6 #[.pointer (some ⟨hb, 0, none⟩), .int .u64 va, .int .i64 2] w
      (RetV fun v w' => ∃ (v' : Value) (F' SP : Nat → Prop), v = .tuple #[v', .int .i64 p] ∧ NdV w' F' hb spb me n (updG S p (wantF me (S p) 2).s) C ∧
        PosAt w' SP v' p ((wantF me (S p) 2).l.map (poOf (C p))) ∧ (∀ k, F' k → F k ∨ w.heap.size ≤ k) ∧ (∀ k, SP k → w.heap.size ≤ k ∧ k < w'.heap.size ∧ ¬ F' k) ∧ Chg F w w') := by
  obtain ⟨SH, L0, s, ps, rfl, hH, hS, hV, hap, hF, hps⟩ := h.ex
  obtain ⟨t, ht⟩ : ∃ t, wantF me (S p) 2 = t := ⟨_, rfl⟩
  rw [ht]
  have HT := Lib.hid ht
  obtain ⟨pn, hpn⟩ : ∃ z : Int, (p : Int) = z := ⟨_, rfl⟩
  have HPn := Lib.hid hpn
  have HPg := Lib.hid (hpage_n hH (fun k hk => h.lt k (hF k (.inl hk))) p (by omega) (by omega) (by omega) (by omega) (by omega))
  have HW := Lib.hid (which_at hS va p o (by omega) (by omega) (by omega) (by omega) (by omega) (by rw [hV.shape]; decide) (by rw [hV.shape]; decide) (by rw [hV.shape]; omega))
  have HFct := Lib.hid (And.intro hS (And.intro hV (And.intro hap (And.intro hF (And.intro hps (And.intro h.lt (And.intro h.by' hp)))))))
  have HN := Lib.hid (And.intro hn (And.intro hn5 (And.intro hme (And.intro hbz (And.intro hsm (And.intro L hDB))))))
  obtain ⟨mh, -, hBk0, -, -⟩ := hH.ex
  have f2 := hBk0.cell' (i := 2) (v := .pointer (some ⟨L0.pb, 0, none⟩)) rfl
  have fl := hBk0.lt
  clear h hS hV hap hF hps hn hn5 hme hp hH ht hva hbz hsm L hDB hBk0 ho hpn
  go_enter Tryz.func6, Tryz.ntmps6
  go_wp2_with fail
  refine HW.out.mono ?_
  rintro e w0 ⟨rfl, hw⟩
  subst hw
  go_wp2_with fail
  refine HPg.out.mono ?_
  rintro e w1 ⟨v, rfl, pb, st, ps1, S1, rfl, hH1, hlk, hor, hS1, hlt1, hC1⟩
  have hstp : st = S p ∧ ∀ q : Nat, q < 2 → S q = pst ps1 me n q := by
    have hps := HFct.out.2.2.2.2.1
    have hp := HFct.out.2.2.2.2.2.2.2
    rcases hor with ⟨rfl, e⟩ | ⟨e1, e2, e3⟩
    · exact ⟨((hps p hp).trans (pst_some e)).symm, hps⟩
    · refine ⟨?_, fun q hq => ?_⟩
      · rw [hps p hp, e2]; unfold pst; rw [e1]
      · rw [e3, e2, pst_app e1]; exact hps q hq
  obtain ⟨rfl, hps1⟩ := hstp
  obtain ⟨R, r1, r2, r3, r4⟩ := hm_pg hH1 hlk hlt1
  obtain ⟨hPN, hPlt⟩ := r4 w1 (Chg.refl NoB w1)
  have hS1F : ∀ k, S1 k → F k ∨ w0.heap.size ≤ k := fun k hk => (hS1 k hk).imp (fun e => HFct.out.2.2.2.1 k (.inl e)) id
  have hDBl : 0 < w0.heap.size := World.block_lt_of_cell? w0 _ HN.out.2.2.2.2.2.1.c0
  have HDn := Lib.hid (want_any hPN.toT hPlt HN.out.2.2.2.1 2 (by decide) (HN.out.2.2.2.2.2.1.chg hC1 fun e => HN.out.2.2.2.2.2.2 (HFct.out.2.2.2.1 _ (.inl e))) (fun e => by
    rcases hS1F _ r1 with q | q
    · exact HN.out.2.2.2.2.2.2 (e ▸ q)
    · omega) HN.out.2.2.2.2.1.1)
  rw [HT.out] at HDn
  have HS1 := Lib.hid (HFct.out.1.chg hC1 fun k hk e => HFct.out.2.2.1 k e hk)
  have HH1 := Lib.hid (And.intro hH1 (And.intro hlk (And.intro hps1 (And.intro hS1 (And.intro hlt1 (And.intro hC1 (And.intro r1 (And.intro r2 r3))))))))
  clear hH1 hlk hor hS1 hlt1 hC1 hps1 r1 r2 r3 r4 hPN hPlt HPg hS1F hDBl f2 fl
  go_wp2_with fail
  refine HDn.out.mono ?_
  rintro e w3 ⟨v3, rfl, pp, pc, SL, S2, rfl, hSL, hS2, hO, hPN, hC3⟩
  have hlay : t.lay = false := by rw [← HT.out]; exact want_lay
  have HFin : Hid (∃ S3 : Nat → Prop, HmN w3 S3 hb L0.pb me n 0 2 (hPut ps1 pb t.s) ∧ (∀ k, S3 k → SH k ∨ w0.heap.size ≤ k) ∧ (∀ k, S3 k → k < w3.heap.size) ∧ (∀ k, S3 k → ¬ L0.All k) ∧ Chg F w0 w3 ∧ SpAt w3 L0 s ∧ ∀ k, SL k → ¬ L0.All k) := Lib.hid (by
    obtain ⟨hH1, hlk, hps1, hS1, hlt1, hC1, r1, r2, r3⟩ := HH1.out
    obtain ⟨hS, hV, hap, hF, hps, hlt, hby, hp⟩ := HFct.out
    obtain ⟨S3, a1, a2, a3⟩ := hm_put hH1 hlk hlt1 r3 hS2 hPN hC3
    have hL0 : ∀ k, L0.All k → k < w0.heap.size := fun k hk => hlt k (hF k (.inr hk))
    have hz1 := hC1.size
    have hPb : ∀ k, k = pb ∨ k = R → S1 k := fun k hk => by
      rcases hk with rfl | rfl
      · exact r1
      · exact r2
    have hS1L : ∀ k, S1 k → ¬ L0.All k := fun k hk e => by
      rcases hS1 k hk with q | q
      · exact hap k q e
      · have := hL0 k e; omega
    have a2' : ∀ k, S3 k → SH k ∨ w0.heap.size ≤ k := fun k hk => (a2 k hk).elim (hS1 k) fun e => .inr (by omega)
    refine ⟨S3, a1, a2', a3, fun k hk e => ?_, (hC1.mono (S' := F) fun k _ e => hF k (.inl e)).trans hC3 fun k hk e => ?_, HS1.out.chg hC3 fun k hk e => hS1L k (hPb k e) hk, fun k hk e => ?_⟩
    · rcases a2' k hk with q | q
      · exact hap k q e
      · have := hL0 k e; omega
    · rcases hS1 k (hPb k e) with q | q
      · exact hF k (.inl q)
      · omega
    · rcases (hSL k hk).1 with q | q
      · exact hS1L k (hPb k q) e
      · have := hL0 k e; omega)
  clear hSL hS2 hPN hC3
  obtain ⟨S3, hH3, hS3a, hS3b, hS3L, hC03, hS3, hSLL⟩ := HFin.out
  have hrng := HFct.out.2.1.rng p HFct.out.2.2.2.2.2.2.2
  have hrg : 0 ≤ t.s.right ∧ t.s.right ≤ 2 := by rw [← HT.out]; exact want_right hrng
  obtain ⟨so1, so2⟩ := HFct.out.2.1.set HFct.out.2.2.2.2.2.2.2 hrg.1 hrg.2
  have hfr : ∀ f, frameOf s p = some f → f < s.u.fr := fun f hf => by
    obtain ⟨t1, t0, I, -⟩ := HFct.out.2.1.inv
    exact SV.frame_lt I hf
  obtain ⟨mp, -, hBk, -, -⟩ := hH3.ex
  have HDo := Lib.hid (hdo24 (dp := none) (dn := 0) (dc := 0) hBk (hS3L hb hH3.s) hS3 p t.lay t.s.right t.l (by rw [← HT.out]; exact Nat.le_trans want_len (by decide)) hO.sl hSLL (fun e => by rw [hlay] at e; cases e) (fun _ => rfl) so1 hfr (by rw [HFct.out.2.1.shape]; have := HFct.out.2.2.2.2.2.2.2; omega))
  have HSo := Lib.hid so2
  clear hO hlay hH3 hS3a hS3b hS3L hC03 hS3 hSLL hrng hrg so1 so2 hfr hBk HDn
  go_wp2_with fail
  refine HDo.out.mono ?_
  rintro e w4 ⟨v4, rfl, L', SP4, hE4, hS4, hPo4, hSP4, hC4⟩
  have HX : Hid (∃ F' SP : Nat → Prop, NdV w4 F' hb L0.pb me n (updG S p t.s) C ∧ PosAt w4 SP v4 p (t.l.map (poOf (C p))) ∧ (∀ k, F' k → F k ∨ w0.heap.size ≤ k) ∧ (∀ k, SP k → w0.heap.size ≤ k ∧ k < w4.heap.size ∧ ¬ F' k) ∧ Chg F w0 w4) := Lib.hid (by
    obtain ⟨hH1, hlk, hps1, hS1, hlt1, hC1, r1, r2, r3⟩ := HH1.out
    obtain ⟨hS, hV, hap, hF, hps, hlt, hby, hp⟩ := HFct.out
    obtain ⟨S3', hH3, hS3a, hS3b, hS3L, hC03, hS3, hSLL⟩ := HFin.out
    exact ndv_fin hp hF hby rfl hV HSo.out hH3 hS3a hS3b hS3L hlk hH1.nd hps1 hC03 hE4 hS4 hPo4 hSP4 hC4)
  clear hE4 hS4 hPo4 hSP4 hC4
  go_wp2_with fail
  go_ret2
  obtain ⟨F', SP, a, b⟩ := HX.out
  exact ⟨_, rfl, v4, F', SP, rfl, a, b⟩
end Go.Proofs.YtdjaeoeejcmhdaaGreatDoor
