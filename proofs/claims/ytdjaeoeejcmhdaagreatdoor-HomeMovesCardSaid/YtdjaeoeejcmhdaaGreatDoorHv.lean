/- Homes that talk: a message is taken. No condition. -/
import Derived.Test.YtdjaeoeejcmhdaaGreatDoorHu
set_option linter.unusedVariables false
set_option linter.unusedSimpArgs false
namespace Go.Proofs.YtdjaeoeejcmhdaaGreatDoor
open Go.RowKit Go.RR
theorem finds_kind {st : PgS} {m : Mg} (h : Finds st m) : 1 ≤ m.kind ∧ m.kind ≤ 6 := by
  rcases h with ⟨h | h, -⟩ | ⟨h, -⟩ | ⟨h, -⟩ | ⟨h, -⟩ | ⟨h, -⟩ <;> omega
theorem take_lay {me : Int} {st : PgS} {m : Mg} (h : (takeF me st m).lay = true) : m.kind = 3 ∨ m.kind = 4 := by
  by_cases h3 : m.kind = 3
  · exact .inl h3
  · by_cases h4 : m.kind = 4
    · exact .inr h4
    · exfalso
      revert h
      unfold takeF
      split
      · simp
      · split
        · split
          · simp
          · split <;> simp
        · split
          · split
            · simp
            · split <;> simp
          · simp
theorem take_right {me : Int} {st : PgS} {m : Mg} (h : 0 ≤ st.right ∧ st.right ≤ 2) : 0 ≤ (takeF me st m).s.right ∧ (takeF me st m).s.right ≤ 2 := by
  have g : ∀ s : PgS, 0 ≤ s.right ∧ s.right ≤ 2 → 0 ≤ (gatherF me s).1.right ∧ (gatherF me s).1.right ≤ 2 := fun s hs => by
    unfold gatherF
    split
    · show (0 : Int) ≤ 2 ∧ (2 : Int) ≤ 2; decide
    · exact hs
  unfold takeF
  split
  · unfold serveF
    split
    · exact h
    · split
      · show 0 ≤ min st.right 1 ∧ min st.right 1 ≤ 2; omega
      · show (0 : Int) ≤ 0 ∧ (0 : Int) ≤ 2; decide
  · split
    · split
      · show (0 : Int) ≤ 1 ∧ (1 : Int) ≤ 2; decide
      · exact h
    · split
      · split
        · exact g _ h
        · exact h
      · split
        · split
          · exact h
          · split
            · exact h
            · show (0 : Int) ≤ 0 ∧ (0 : Int) ≤ 2; decide
        · split
          · split
            · exact h
            · split
              · show (0 : Int) ≤ 2 ∧ (2 : Int) ≤ 2; decide
              · exact h
          · exact h
theorem take_len {me : Nat} {st : PgS} {m : Mg} (h : Sm st) (hm : m.set < 32) : (takeF me st m).l.length ≤ 16 := by
  have nl : ∀ s : Nat, (nlistF s).length ≤ 16 := fun s => by
    unfold nlistF
    rw [List.length_map]
    exact Nat.le_trans (List.length_filter_le ..) (by simp)
  have g : ∀ s : PgS, (gatherF me s).2.length ≤ 16 := fun s => by
    unfold gatherF
    split
    · simp
    · rw [List.length_map]; exact nl _
  unfold takeF
  split
  · unfold serveF
    split
    · simp
    · split <;> simp
  · split
    · split <;> simp
    · split
      · split
        · exact g _
        · simp
      · split
        · split
          · simp
          · split <;> simp [dropPF]
        · split
          · split
            · simp
            · split <;> simp
          · simp
theorem DatW.monoIn {w : World} {S S' : Nat → Prop} {v : Value} {o : Option By} (h : DatW w S v o) (hs : ∀ k, k < w.heap.size → S k → S' k) : DatW w S' v o := by
  cases o with
  | none => exact h
  | some d => exact ⟨h.1.monoIn hs, h.2⟩
/-- What is laid, if something is. -/
theorem lay_plan {me : Nat} {F : Nat → Prop} {w : World} {L0 : Pl} {s : Spc} {S : Nat → PgS} {C : Nat → By} (hV : SV s (fun q => (S q).right) C) {p : Nat} (hp : p < 2) (lay : Bool) (dat : Option By) (hl : lay = true → dat.isSome = true) {dp : Option Addr} {dn dc : Nat} {SD : Nat → Prop} (hok : ∀ d, dat = some d → ByOk d) :
    ∃ (s1 : Spc), (lay = false → s1 = s) ∧ SV s1 (fun q => (S q).right) (if lay then updG C p (dat.getD noB) else C) ∧
      (lay = true → ∀ w', SpAt w' L0 s → DatW w' SD (.slice dp dn dc) dat → (∀ k, SD k → ¬ L0.All k) → Calls Tryz.prog 43 #[.pointer (some ⟨L0.pb, 0, none⟩), .int .i64 p, .slice dp dn dc] w' (RetW (.int .i64 0) fun w'' => ∃ L', Ext L0 L' w' ∧ SpAt w'' L' s1 ∧ Chg L0.All w' w'')) := by
  cases lay with
  | false => exact ⟨s, fun _ => rfl, hV, fun h => by cases h⟩
  | true =>
    obtain ⟨d, hd⟩ := Option.isSome_iff_exists.1 (hl rfl)
    subst hd
    have hdo := hok d rfl
    obtain ⟨r1, ⟨f, f1, f2, f3⟩, r2⟩ := hV.lay hp (padF d (trimN d 4096))
    refine ⟨layS s p (padF d (trimN d 4096)), (fun h => by cases h), r2.congr (fun _ _ => rfl) fun q hq i hi => ?_, fun _ w' hS hD hap => ?_⟩
    · rw [if_pos rfl]
      by_cases e : q = p
      · rw [e, updG_at, updG_at]
        show padF d (trimN d 4096) i = d i
        unfold padF
        by_cases h : i < trimN d 4096
        · rw [if_pos h]
        · rw [if_neg h, trimN_zero d 4096 i (by omega) hi]
      · rw [updG_ne _ _ e, updG_ne _ _ e]
    · obtain ⟨D1, D2⟩ := hD
      have hn : dn = trimN d 4096 := by
        obtain ⟨-, p', c', hv, -⟩ := D1
        cases hv; rfl
      exact setData24 hS p (by rw [hV.shape]; omega) r1 f3 f1 f2 _ _ d SD D2 D1 hap (trimN_le d 4096)
set_option maxHeartbeats 4000000 in
set_option maxRecDepth 100000 in
theorem hTake24 {w : World} {F : Nat → Prop} {hb spb me n : Nat} {S : Nat → PgS} {C : Nat → By} (h : NdV w F hb spb me n S C) (hn : 2 ≤ n) (hn5 : n ≤ 5) (hme : me < n) (p : Nat) (hp : p < 2) (m : Mg) (hf : Finds (S p) m) (hno : 0 ≤ m.node ∧ m.node < n) (hh : 0 ≤ m.hops ∧ m.hops ≤ 255) (hset : m.set < 32) (hset4 : m.kind ≠ 4 → m.set = 0) (hsm : Sm (S p)) {dp : Option Addr} {dn dc : Nat} (dat : Option By) (hdat : dat.isSome = true ↔ m.kind = 3 ∨ m.kind = 4) {SD : Nat → Prop} (hD : DatW w SD (.slice dp dn dc) dat) (hSD : ∀ k, SD k → ¬ F k) (L : Tz24 w) (hDB : ¬ F 0) :
    Calls Tryz.prog 13 #[.pointer (some ⟨hb, 0, none⟩), .agg #[.int .i64 m.kind, .int .i64 p, .int .i64 m.node, .int .i64 m.hops, .int .u16 m.set, .slice dp dn dc]] w
      (RetV fun v w' => ∃ F' SP : Nat → Prop, NdV w' F' hb spb me n (updG S p (takeF me (S p) m).s) (if (takeF me (S p) m).lay then updG C p (dat.getD noB) else C) ∧
        PosAt w' SP v p ((takeF me (S p) m).l.map (poOf (if (takeF me (S p) m).lay then dat.getD noB else C p))) ∧ (∀ k, F' k → F k ∨ w.heap.size ≤ k) ∧ (∀ k, SP k → w.heap.size ≤ k ∧ k < w'.heap.size ∧ ¬ F' k) ∧ Chg F w w') := by
  obtain ⟨k1, k6⟩ := finds_kind hf
  replace hD : DatW w (fun k => SD k ∧ k < w.heap.size) (.slice dp dn dc) dat := hD.monoIn fun k h1 h2 => ⟨h2, h1⟩
  replace hSD : ∀ k, (SD k ∧ k < w.heap.size) → ¬ F k := fun k hk => hSD k hk.1
  obtain ⟨SH, L0, s, ps, rfl, hH, hS, hV, hap, hF, hps⟩ := h.ex
  obtain ⟨t, ht⟩ : ∃ t, takeF me (S p) m = t := ⟨_, rfl⟩
  rw [ht]
  have HT := Lib.hid ht
  obtain ⟨CC, hCC⟩ : ∃ CC, (if t.lay then updG C p (dat.getD noB) else C) = CC := ⟨_, rfl⟩
  obtain ⟨cp, hcp⟩ : ∃ cp, (if t.lay then dat.getD noB else C p) = cp := ⟨_, rfl⟩
  rw [hCC, hcp]
  have HCC := Lib.hid (And.intro hCC hcp)
  clear hCC hcp
  obtain ⟨kind, node, hops, set⟩ := m
  dsimp only at k1 k6 hno hh hset hset4 hdat ht
  have c0 := (Chg.refl NoB w).alloc (.cells #[.int .i64 kind, .int .i64 p, .int .i64 node, .int .i64 hops, .int .u16 set, .slice dp dn dc] 52)
  have hM := Blk.new w #[.int .i64 kind, .int .i64 p, .int .i64 node, .int .i64 hops, .int .u16 set, .slice dp dn dc] 52
  have HPg := Lib.hid fun w' (c : Chg NoB w w') => hpage_n (hH.chg0 c) (fun k hk => Nat.lt_of_lt_of_le (h.lt k (hF k (.inl hk))) c.size) p (by omega) (by omega) (by omega) (by omega) (by omega)
  have HFct := Lib.hid (And.intro hS (And.intro hV (And.intro hap (And.intro hF (And.intro hps (And.intro h.lt h.by'))))))
  have HMs := Lib.hid (And.intro hf (And.intro hno (And.intro hh (And.intro hset (And.intro hset4 (And.intro hsm (And.intro hdat (And.intro k1 k6))))))))
  have HDt := Lib.hid (And.intro hD (And.intro hSD (And.intro L (And.intro hDB (And.intro hn (And.intro hn5 (And.intro hme hp)))))))
  have HH := Lib.hid hH
  have HC0 := Lib.hid c0
  clear h hS hV hap hF hps hf hno hh hset hset4 hsm hdat k1 k6 hD hSD L hDB hn hn5 hme hp hH ht
  go_enter Tryz.func13, Tryz.ntmps13
  go_upto_region 1 with fail
  generalize w.alloc (.cells #[.int .i64 kind, .int .i64 p, .int .i64 node, .int .i64 hops, .int .u16 set, .slice dp dn dc] 52) = w0 at *
  obtain ⟨mb, hmb⟩ : ∃ b, w.heap.size = b := ⟨_, rfl⟩
  have HMB := Lib.hid hmb
  rw [hmb] at hM
  simp only [hmb]
  have HM := Lib.hid hM
  have x1 := hM.cell' (i := 1) (v := .int .i64 p) rfl
  have xl := hM.lt
  clear hmb hM c0
  go_wp2_with fail
  refine (HPg.out _ HC0.out).mono ?_
  rintro e w1 ⟨v, rfl, pb, st, ps1, S1, rfl, hH1, hlk, hor, hS1, hlt1, hC1⟩
  have hstp : st = S p ∧ ∀ q : Nat, q < 2 → S q = pst ps1 me n q := by
    have hps := HFct.out.2.2.2.2.1
    rcases hor with ⟨rfl, e⟩ | ⟨e1, e2, e3⟩
    · exact ⟨((hps p HDt.out.2.2.2.2.2.2.2).trans (pst_some e)).symm, hps⟩
    · refine ⟨?_, fun q hq => ?_⟩
      · rw [hps p HDt.out.2.2.2.2.2.2.2, e2]; unfold pst; rw [e1]
      · rw [e3, e2, pst_app e1]; exact hps q hq
  obtain ⟨rfl, hps1⟩ := hstp
  have hmbS : ¬ SH mb := fun e => by have := HFct.out.2.2.2.2.2.1 mb (HFct.out.2.2.2.1 mb (.inl e)); have := HMB.out; omega
  have HM1 := Lib.hid (hC1.blk HM.out hmbS)
  have HH1 := Lib.hid (And.intro hH1 (And.intro hlk (And.intro hps1 (And.intro hS1 (And.intro hlt1 hC1)))))
  have HS1 := Lib.hid ((HFct.out.1.chg0 HC0.out).chg hC1 fun k hk e => HFct.out.2.2.1 k e hk)
  have hD1 : DatW w1 (fun k => SD k ∧ k < w.heap.size) (.slice dp dn dc) dat := (HDt.out.1.chg HC0.out fun _ _ => id).chg hC1 fun k hk e => HDt.out.2.1 k hk (HFct.out.2.2.2.1 k (.inl e))
  have HD1 := Lib.hid hD1
  have HRt : Hid (Calls Tryz.prog 29 #[.agg #[.int .i64 kind, .int .i64 p, .int .i64 node, .int .i64 hops, .int .u16 set, .slice dp dn dc]] w1 (RetW (.bool true) fun w' => Chg NoB w1 w')) := Lib.hid (by
    obtain ⟨-, hno, hh, -, hset4, -, hdat, k1, k6⟩ := HMs.out
    refine mright_any (m := ⟨kind, node, hops, set⟩) ⟨k1, k6, by omega, by have := HDt.out.2.2.2.2.2.2.2; omega, hno.1, by have := hno.2; have := HDt.out.2.2.2.2.2.1; show node < 16; omega, hh.1, hh.2, hset4⟩ (fun w' c => ?_) ⟨dp, dn, dc, rfl⟩
    cases hd : dat with
    | none =>
      rw [hd] at hD1 hdat
      obtain ⟨rfl, rfl, rfl⟩ : dp = none ∧ dn = 0 ∧ dc = 0 := by have e : Value.slice dp dn dc = .slice none 0 0 := hD1; cases e; exact ⟨rfl, rfl, rfl⟩
      have : ¬ (kind = 3 ∨ kind = 4) := fun e => by have := hdat.2 e; cases this
      exact mdata_no (by dsimp only; omega)
    | some d =>
      rw [hd] at hD1 hdat
      obtain ⟨D1, D2⟩ := hD1
      have D1' := D1.chg0 c
      have hn : dn = trimN d 4096 := by
        obtain ⟨-, p', c', hv, -⟩ := D1
        cases hv; rfl
      subst hn
      exact mdata_yes (hdat.1 rfl) D1' (trimN_le d 4096) (trimN_last d 4096))
  clear hH1 hlk hor hS1 hlt1 hC1 hps1 hmbS x1 xl HPg hD1
  have xm := HM1.out.cell
  have xl := HM1.out.lt
  go_wp2_with fail
  refine HRt.out.mono ?_
  rintro e w2 ⟨rfl, c2⟩
  have HM2 := Lib.hid (c2.blk0 HM1.out)
  have HC2 := Lib.hid c2
  clear xm xl HRt c2 HM1
  go_upto_region 4 with fail
  have HTk : Hid (∀ w', Chg NoB w2 w' → ∃ R : Nat, S1 pb ∧ S1 R ∧ Blk w' pb (pgCx me p (S p) R (.slice none 0 0) false) 128 ∧ Calls Tryz.prog 30 #[.pointer (some ⟨pb, 0, none⟩), .agg #[.int .i64 kind, .int .i64 p, .int .i64 node, .int .i64 hops, .int .u16 set, .slice dp dn dc]] w' (RetV (TellQ w' (fun k => k = pb ∨ k = R) pb me p t.s t.lay t.l))) := Lib.hid fun w' c => by
    obtain ⟨hH1, hlk, -, hS1, hlt1, hC1⟩ := HH1.out
    obtain ⟨hD, hSD, L, hDB, hn, hn5, hme, hp⟩ := HDt.out
    obtain ⟨hf, hno, hh, hset, hset4, hsm, -, k1, k6⟩ := HMs.out
    obtain ⟨R, r1, r2⟩ := hH1.pg
    obtain ⟨y1, y2, y3, y4⟩ := r1 _ (hLook_mem hlk)
    replace y1 : S1 pb := y1
    replace y2 : S1 (R pb) := y2
    have cw : Chg NoB w1 w' := HC2.out.step c
    have hPN : PgN w' (fun k => k = pb ∨ k = R pb) pb me p (S p) := ⟨.inl rfl, R pb, .inr rfl, cw.blk0 y3, cw.blk0 y4⟩
    have hlt : ∀ k, k = pb ∨ k = R pb → k < w'.heap.size := fun k hk => by
      have := cw.size
      rcases hk with rfl | rfl
      · have := hlt1 _ y1; omega
      · have := hlt1 _ y2; omega
    have Lw : Tz24 w' := (((L.chg0 HC0.out).chg hC1 fun e => hDB (HFct.out.2.2.2.1 _ (.inl e))).chg0 cw)
    have nDB : ¬ (fun k => k = pb ∨ k = R pb) 0 := fun e => by
      have hDBl : 0 < w.heap.size := World.block_lt_of_cell? w _ L.c0
      have key : ∀ k, S1 k → k = 0 → False := fun k hk e => by
        rcases hS1 k hk with q | q
        · exact hDB (HFct.out.2.2.2.1 _ (.inl (e ▸ q)))
        · have := HC0.out.size; omega
      rcases e with e | e
      · exact key _ y1 e.symm
      · exact key _ y2 e.symm
    refine ⟨R pb, y1, y2, cw.blk0 y3, ?_⟩
    have := take_any hPN.toT hlt ⟨kind, node, hops, set⟩ (by omega) ⟨hno.1, by have := hno.2; dsimp only; omega⟩ hh (by dsimp only; omega) (by have := hsm.1; omega) (by have := hsm.2; omega) Lw nDB (fun _ => ndrop_sm _ hset) hf dp dn dc
    rw [HT.out] at this
    exact this
  have cc := Chg.refl NoB w2
  have xm : ∀ w', Blk w' mb #[.int .i64 kind, .int .i64 p, .int .i64 node, .int .i64 hops, .int .u16 set, .slice dp dn dc] 52 → ∀ i, w'.cell? ⟨mb, i, none⟩ = #[.int .i64 kind, .int .i64 p, .int .i64 node, .int .i64 hops, .int .u16 set, .slice dp dn dc][i]? := fun w' h => h.cell
  have xl : ∀ w', Blk w' mb #[.int .i64 kind, .int .i64 p, .int .i64 node, .int .i64 hops, .int .u16 set, .slice dp dn dc] 52 → mb < w'.heap.size := fun w' h => h.lt
  have HM2d := HM2.out.drew
  obtain ⟨R, HR1, HR2, HR3, HTk2⟩ := HTk.out _ cc.drew
  have HTK := Lib.hid HTk2
  have HR := Lib.hid (And.intro HR1 (And.intro HR2 HR3))
  clear HTk HR1 HR2 HR3 HTk2
  refine wp_region_mix 9 [(true, 0), (true, 1), (true, 2), (true, 3), (true, 4), (true, 6), (true, 7), (false, 5), (false, 8)] (fun w' => Blk w' mb #[.int .i64 kind, .int .i64 p, .int .i64 node, .int .i64 hops, .int .u16 set, .slice dp dn dc] 52) (by kernel_rfl) (by kernel_rfl) (fun _ _ _ _ _ h => h) (HM2d) ?_
  simp only [pickMix_nil, pickMix_cons, Option.getD_some, List.getElem?_toArray, List.getElem?_cons_zero, List.getElem?_cons_succ, List.cons_append, List.nil_append, List.drop_succ_cons, List.drop_zero]
  iterate 7
   refine wpMix_take rfl ?_
   apply Exists.intro
   refine ⟨fun wS hS => ?_, ?_⟩
   · try dsimp only at hS
     have cS := hS
     go_simp
     try rfl
   simp only [Act.put, List.setIfInBounds_toArray, List.set_cons_zero, List.set_cons_succ]
  refine wpMix_force rfl (fun K hK => ?_)
  go_simp
  refine HTK.out.mono ?_
  rintro e w3 ⟨v3, rfl, pp, pc, SL, S2, rfl, hSL, hS2, hO, hPN, hC3⟩
  have hmb3 : ¬ (fun k => k = pb ∨ k = R) mb := fun e => by
    obtain ⟨hH1, hlk, -, hS1, hlt1, hC1⟩ := HH1.out
    have key : ∀ k, S1 k → k ≠ mb := fun k hk e => by
      have h1 := HMB.out
      rcases hS1 k hk with q | q
      · have := HFct.out.2.2.2.2.2.1 k (HFct.out.2.2.2.1 k (.inl q)); omega
      · have h2 := HM.out.lt
        omega
    rcases e with e | e
    · exact key _ HR.out.1 e.symm
    · exact key _ HR.out.2.1 e.symm
  have HM3 := Lib.hid (hC3.blk (HM2.out.drew) hmb3)
  have HX3 := Lib.hid (And.intro hSL (And.intro hS2 (And.intro hO (And.intro hPN hC3))))
  clear hmb3 hSL hS2 hO hPN hC3
  refine hK _ _ HM3.out ?_
  clear hK K HM2d
  refine wpMix_force rfl (fun K hK => ?_)
  go_simp
  have hfin : (dat.isSome = true ∨ t.lay = false) := by
    cases hl : t.lay
    · exact .inr rfl
    · refine .inl (HMs.out.2.2.2.2.2.2.1.2 ?_)
      have h := HT.out
      rw [← h] at hl
      exact take_lay hl
  obtain ⟨s1, p1, p2, p3⟩ := lay_plan (me := me) (F := F) (w := w) (L0 := L0) (SD := fun k => SD k ∧ k < w.heap.size) HFct.out.2.1 HDt.out.2.2.2.2.2.2.2 t.lay dat (fun e => hfin.elim id fun e' => by rw [e] at e'; cases e') (dp := dp) (dn := dn) (dc := dc) (fun d hd => by have := HDt.out.1; rw [hd] at this; exact this.2)
  obtain ⟨so1, so2⟩ := p2.set HDt.out.2.2.2.2.2.2.2 (r := t.s.right) (by rw [← HT.out]; exact (take_right (HFct.out.2.1.rng p HDt.out.2.2.2.2.2.2.2)).1) (by rw [← HT.out]; exact (take_right (HFct.out.2.1.rng p HDt.out.2.2.2.2.2.2.2)).2)
  have hfr : ∀ f, frameOf s1 p = some f → f < s1.u.fr := fun f hf => by
    obtain ⟨t1, t0, I, -⟩ := p2.inv
    exact SV.frame_lt I hf
  have hL0 : ∀ k, L0.All k → k < w.heap.size := fun k hk => HFct.out.2.2.2.2.2.1 k (HFct.out.2.2.2.1 k (.inr hk))
  have hz0 : w.heap.size ≤ w0.heap.size := HC0.out.size
  have hz1 : w0.heap.size ≤ w1.heap.size := HH1.out.2.2.2.2.2.size
  have hz2 : w1.heap.size ≤ w2.heap.size := HC2.out.size
  have hz3 : w2.heap.size ≤ w3.heap.size := HX3.out.2.2.2.2.size
  have hS1L : ∀ k, S1 k → ¬ L0.All k := fun k hk e => by
    rcases HH1.out.2.2.2.1 k hk with q | q
    · exact HFct.out.2.2.1 k q e
    · have := hL0 k e; omega
  have hSPL : ∀ k, k = pb ∨ k = R → S1 k := fun k hk => by
    rcases hk with rfl | rfl
    · exact HR.out.1
    · exact HR.out.2.1
  have hS3 : SpAt w3 L0 s := ((HS1.out.chg0 HC2.out).chg0 (Chg.refl NoB w2).drew).chg HX3.out.2.2.2.2 fun k hk e => hS1L k (hSPL k e) hk
  have hHm : ∃ S3 : Nat → Prop, HmN w3 S3 hb L0.pb me n 0 2 (hPut ps1 pb t.s) ∧ (∀ k, S3 k → SH k ∨ w.heap.size ≤ k) ∧ (∀ k, S3 k → k < w3.heap.size) := by
    obtain ⟨hH1, hlk, -, hS1, hlt1, hC1⟩ := HH1.out
    obtain ⟨hSL, hS2, hO, hPN, hC3⟩ := HX3.out
    have hP2 : PgN w3 (fun k => S2 k ∧ k < w3.heap.size) pb me p t.s := by
      obtain ⟨rb, q1, q2, q3⟩ := hPN.ex
      exact ⟨⟨hPN.s, q2.lt⟩, rb, ⟨q1, q3.lt⟩, q2, q3⟩
    refine ⟨_, ((hH1.chg0 HC2.out).chg0 (Chg.refl NoB w2).drew).put (fun k hk => Nat.lt_of_lt_of_le (hlt1 k hk) hz2) (hLook_mem hlk) (SP := fun k => k = pb ∨ k = R) (fun k hk => ?_) (fun k hk => hS2 k hk.1) hP2 hC3 (fun k hk => hk.2), fun k hk => ?_, fun k hk => ?_⟩
    · rcases hk with e | e
      · exact .inl e
      · exact .inr ⟨R, HR.out.2.2, e⟩
    · rcases hk with hk | hk
      · exact (hS1 k hk).imp id fun e => by omega
      · have : w2.heap.size ≤ k := hk.1
        exact .inr (by omega)
    · rcases hk with hk | hk
      · have := hlt1 k hk; omega
      · exact hk.2.1
  obtain ⟨S3, hH3, hS3a, hS3b⟩ := hHm
  have hS3L : ∀ k, S3 k → ¬ L0.All k := fun k hk e => by
    rcases hS3a k hk with q | q
    · exact HFct.out.2.2.1 k q e
    · have := hL0 k e; omega
  obtain ⟨mp, -, hBk, -, -⟩ := hH3.ex
  have hSLL : ∀ k, SL k → ¬ L0.All k := fun k hk e => by
    rcases (HX3.out.1 k hk).1 with q | q
    · exact hS1L k (hSPL k q) e
    · have : w2.heap.size ≤ k := q
      have := hL0 k e; omega
  have hDw3 : DatW w3 (fun k => SD k ∧ k < w.heap.size) (.slice dp dn dc) dat := ((HD1.out.chg HC2.out fun _ _ => id).chg (Chg.refl NoB w2).drew fun _ _ => id).chg HX3.out.2.2.2.2 fun k hk e => by
    rcases HH1.out.2.2.2.1 k (hSPL k e) with q | q
    · exact HDt.out.2.1 k hk (HFct.out.2.2.2.1 k (.inl q))
    · have := hk.2
      have := HC0.out.size
      omega
  have hSDL : ∀ k, (SD k ∧ k < w.heap.size) → ¬ L0.All k := fun k hk e => HDt.out.2.1 k hk (HFct.out.2.2.2.1 k (.inr e))
  have HDo := Lib.hid (hdo24 hBk (hS3L hb hH3.s) hS3 p t.lay t.s.right t.l (by rw [← HT.out]; exact Nat.le_trans (take_len HMs.out.2.2.2.2.2.1 HMs.out.2.2.2.1) (by decide)) HX3.out.2.2.1.sl hSLL (fun e w' c => p3 e w' (hS3.chg0 c) (hDw3.chg c fun _ _ => id) hSDL) p1 so1 hfr (by rw [p2.shape]; have := HDt.out.2.2.2.2.2.2.2; omega))
  have HM3' := HM3.out
  have hC3' := hS3.lt
  have HFin := Lib.hid (And.intro p2 (And.intro so2 (And.intro hH3 (And.intro hS3a (And.intro hS3b hS3L)))))
  have HZ := Lib.hid (And.intro hz0 (And.intro hz1 (And.intro hz2 hz3)))
  have HX4 : Hid (¬ L0.All mb) := Lib.hid fun e => by have := hL0 mb e; have := HMB.out; omega
  clear hfin p1 p2 p3 so1 so2 hfr hL0 hz0 hz1 hz2 hz3 hS1L hSPL hS3 hH3 hS3a hS3b hS3L hBk hSLL hDw3 hSDL hC3'
  refine HDo.out.mono ?_
  rintro e w4 ⟨v4, rfl, L', SP4, hE4, hS4, hPo4, hSP4, hC4⟩
  have HM4 := hC4.blk HM3' HX4.out
  have HX5 := Lib.hid (And.intro hE4 (And.intro hS4 (And.intro hPo4 (And.intro hSP4 hC4))))
  clear hE4 hS4 hPo4 hSP4 hC4 HM3' HX4
  refine hK _ _ HM4 ?_
  clear hK K HM4
  refine wpMix_nil ?_
  have HX : Hid (∃ F' SP : Nat → Prop, NdV w4 F' hb L0.pb me n (updG S p t.s) CC ∧ PosAt w4 SP v4 p (t.l.map (poOf cp)) ∧ (∀ k, F' k → F k ∨ w.heap.size ≤ k) ∧ (∀ k, SP k → w.heap.size ≤ k ∧ k < w4.heap.size ∧ ¬ F' k) ∧ Chg F w w4) := Lib.hid (by
    obtain ⟨p2, so2, hH3, hS3a, hS3b, hS3L⟩ := HFin.out
    rw [← HCC.out.1, ← HCC.out.2]
    obtain ⟨hE4, hS4, hPo4, hSP4, hC4⟩ := HX5.out
    obtain ⟨hz0, hz1, hz2, hz3⟩ := HZ.out
    obtain ⟨hS, hV, hap, hF, hps, hlt, hby⟩ := HFct.out
    obtain ⟨hH1, hlk, hps1, hS1, hlt1, hC1⟩ := HH1.out
    have hp := HDt.out.2.2.2.2.2.2.2
    have hdok : ∀ d, dat = some d → ByOk d := fun d hd => by have := HDt.out.1; rw [hd] at this; exact this.2
    have hbd : ByOk (dat.getD noB) := by
      cases hd : dat with
      | none => exact fun _ => by show 0 < 256; decide
      | some d => exact hdok d hd
    have hby2 : ByOk (if t.lay then dat.getD noB else C p) := by
      split
      · exact hbd
      · exact hby p
    have hCp : (if t.lay then updG C p (dat.getD noB) else C) p = if t.lay then dat.getD noB else C p := by
      split
      · exact updG_at ..
      · rfl
    have hz4 := hC4.size
    have hCh : Chg F w w4 := by
      have a1 := (HC0.out.mono (S' := F) fun _ _ e => e.elim).trans hC1 fun k _ e => hF k (.inl e)
      have a2 := a1.then0 HC2.out
      refine (a2.drew.trans HX3.out.2.2.2.2 fun k hk e => ?_).trans hC4 fun k _ e => hF k (.inr e)
      have e1 : S1 k := by
        rcases e with rfl | rfl
        · exact HR.out.1
        · exact HR.out.2.1
      rcases hS1 k e1 with q | q
      · exact hF k (.inl q)
      · omega
    refine ⟨fun k => S3 k ∨ L'.All k, SP4, ⟨⟨S3, L', _, _, hE4.1, by rw [hE4.1]; exact hH3.chg hC4 hS3L, hS4, so2.congr (fun q hq => ?_) (fun _ _ _ _ => rfl), fun k hk e => ?_, fun _ => id, fun q hq => ?_⟩, fun k hk => ?_, fun q => ?_⟩, posAt_congr (fun i hi => ?_) hby2 hPo4, fun k hk => ?_, fun k hk => ?_, hCh⟩
    · by_cases e : q = p
      · rw [e, updG_at, updG_at]
      · rw [updG_ne _ _ e, updG_ne _ _ e]
    · rcases hE4.2.2 k e with e | e
      · exact hS3L k hk e
      · have := hS3b k hk; omega
    · rw [pst_put hlk hH1.nd]
      by_cases e : q = p
      · rw [e, updG_at, if_pos rfl]
      · rw [updG_ne _ _ e, if_neg e]; exact hps1 q hq
    · rcases hk with hk | hk
      · have := hS3b k hk; omega
      · exact hS4.lt k hk
    · split
      · by_cases e : q = p
        · rw [e, updG_at]; exact hbd
        · rw [updG_ne _ _ e]; exact hby q
      · exact hby q
    · rw [← hCp]; exact p2.ct p hp i hi
    · rcases hk with hk | hk
      · exact (hS3a k hk).imp (fun e => hF k (.inl e)) id
      · exact (hE4.2.2 k hk).imp (fun e => hF k (.inr e)) fun e => by omega
    · obtain ⟨y1, y2, y3⟩ := hSP4 k hk
      refine ⟨by omega, y2, fun e => ?_⟩
      rcases e with e | e
      · have := hS3b k e; omega
      · exact y3 e)
  go_wp2_with fail
  go_ret
  obtain ⟨F', SP, a, b⟩ := HX.out
  exact ⟨_, rfl, F', a, SP, b⟩
end Go.Proofs.YtdjaeoeejcmhdaaGreatDoor
