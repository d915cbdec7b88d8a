/- A flat machine's nodes: what an instruction of the adding program does. Plain, no program. No condition. A flat machine: what an instruction stored is spread. No condition. The spaces of a flat machine of the adding program, and its run. Plain, no program. No condition. -/
import Derived.Test.YtleilfkcjollaaaGreatHl
import Derived.Test.YtleilfkcjollaaaGreatHn
set_option linter.unusedVariables false
set_option linter.unusedSimpArgs false
namespace Go.Proofs.YtleilfkcjollaaaGreat
open Go.RowKit Go.RR
/-- A node's space: the program lies there, the first shared page may be written, its first word. -/
structure FS (s : Spc) (q : List In) (v : Nat) : Prop where
  inv : ∃ t1 t0, SpInv s t1 t0
  prog : HasProg s q
  mem : ∃ m, Mem s m ∧ m 0 = v
  shp : 0 < s.shape.shared ∧ s.shape.shared ≤ 65536
def stepA (c : Cor) (v : Nat) (i : In) : Option (Cor × Nat × DidP) :=
  if pureI i then some (coreF c i, v, ⟨true, i, c.pc, -1, 0, 0, 0, 0, 0⟩)
  else if i.op = 33 ∧ memA c i = 1073741824 then some (pc4 (c.set i.rd v), turnF 33 (c.r i.rt.toNat) v, ⟨true, i, c.pc, -1, 2, 1073741824, 8, v, cutF (turnF 33 (c.r i.rt.toNat) v) 8⟩)
  else none
theorem try_A {s : Spc} {q : List In} {v : Nat} (h : FS s q v) (hr : ∀ i ∈ q, rightB i = true) {c : Cor} (hc : c.run = 0) {i : In} (hi : atP q c.pc = some i) {x : Cor × Nat × DidP} (hx : stepA c v i = some x) :
    ∃ u', tryF nilCx c s.u 0 = (x.2.2, x.1, u') ∧ FS { s with u := u' } q x.2.1 ∧ x.2.2.done = true ∧ (∀ j, instG (readF s.u c.pc 4 0 0).1.1 = some j → CxFor nilCx j.op) := by
  obtain ⟨t1, t0, hI⟩ := h.inv
  obtain ⟨m, hm, hm0⟩ := h.mem
  unfold stepA at hx
  split at hx
  · rename_i hpu
    obtain ⟨b, hb, e, hcx⟩ := try_pure hI h.prog hr hc hi hpu
    cases hx
    exact ⟨_, e, ⟨⟨t1, t0, hI.tlb hb⟩, ⟨h.prog.len, h.prog.at'⟩, ⟨m, hm.tlb b, hm0⟩, h.shp⟩, rfl, hcx⟩
  · split at hx
    · rename_i hop
      obtain ⟨hop, hma⟩ := hop
      cases hx
      obtain ⟨k, hpc, hk⟩ := atP_pc hi
      obtain ⟨b, hb, e⟩ := try_prog nilCx hI h.prog hr hk hc hpc 0
      have hcx : ∀ j, instG (readF s.u c.pc 4 0 0).1.1 = some j → j = i := fun j hj => by
        obtain ⟨b', -, e'⟩ := fetch_prog hI h.prog hk 0
        rw [hpc, e', instG_W (hr i (List.mem_of_getElem? hk))] at hj
        exact (Option.some.inj hj).symm
      obtain ⟨f, hf, hw⟩ := hm.at'
      have h2 := hI.tlb hb
      obtain ⟨b', hb', e'⟩ := ad_do nilCx h2 hf hm.right (o := 0) (by omega) (by omega) hop (c := c) (i := i) (by show memA c i = _; omega) 0
      have hv : getW s.u.b (f * 4096 + 0) 8 = v := (hw 0 (by omega)).trans hm0
      obtain ⟨l1, l2, l3⟩ := lay_mem h2 (q := q) ⟨h.prog.len, h.prog.at'⟩ (hm.tlb b) hf (k := 0) (by omega) (turnF 33 (c.r i.rt.toNat) v) hb'
      refine ⟨_, (e.trans e').trans ?_, ⟨⟨t1, t0, l1⟩, l2, ⟨_, l3, ?_⟩, h.shp⟩, rfl, fun j hj => by rw [hcx j hj]; exact fun e => by omega⟩
      · rw [show getW ({ s with u := { s.u with tlb := b } } : Spc).u.b (f * 4096 + 0) 8 = v from hv]
        unfold pc4
        rw [set_pc]
      · have et : turnF 33 (c.r i.rt.toNat) v = (v + c.r i.rt.toNat) % 18446744073709551616 := by
          unfold turnF
          rw [if_pos (.inr rfl)]
        show (turnF 33 (c.r i.rt.toNat) v) % 18446744073709551616 = turnF 33 (c.r i.rt.toNat) v
        rw [et]
        omega
    · cases hx
theorem store_A {s : Spc} {q : List In} {v : Nat} (h : FS s q v) (x : Nat) : FS { s with u := (storeF s.u 1073741824 8 x 0).2 } q (x % 18446744073709551616) := by
  obtain ⟨t1, t0, hI⟩ := h.inv
  obtain ⟨m, hm, hm0⟩ := h.mem
  obtain ⟨f, hf, hw⟩ := hm.at'
  obtain ⟨b, hb, e⟩ := store_shared hI (p := 0) (by omega) hf (by rw [hm.right]; decide) (o := 0) (by omega) (by omega) x 0
  obtain ⟨l1, l2, l3⟩ := lay_mem hI (q := q) h.prog hm hf (k := 0) (by omega) x hb
  rw [if_pos hm.right] at e
  rw [show storeF s.u 1073741824 8 x 0 = (-1, { s.u with tlb := b, b := putW s.u.b (f * 4096 + 8 * 0) 8 x }) from e]
  exact ⟨⟨t1, t0, l1⟩, l2, ⟨_, l3, rfl⟩, h.shp⟩
end Go.Proofs.YtleilfkcjollaaaGreat
set_option linter.unusedVariables false
set_option linter.unusedSimpArgs false
namespace Go.Proofs.YtleilfkcjollaaaGreat
open Go.RowKit Go.RR
def lay8 (s : Spc) (x : Nat) : Spc := { s with u := (storeF s.u 1073741824 8 x 0).2 }
theorem spStore_any {w : World} {L : Pl} {s : Spc} {cb : Nat} {c : Cor} (h : Mc w L s cb c) (x : Nat) (hx : x < 18446744073709551616) :
    Calls Tryz.prog 148 #[.pointer (some ⟨L.ub, 0, none⟩), .int .u64 1073741824, .int .i64 8, .int .u64 x, .int .i64 0] w (RetW (.int .i64 (storeF s.u 1073741824 8 x 0).1) fun w' => ∃ L' : Pl, Ext L L' w ∧ Mc w' L' (lay8 s x) cb c ∧ Chg (Blks L cb) w w') := by
  refine (munit_store h.sp.mu 1073741824 8 x 0 (by omega) hx (by decide) (by decide)).mono ?_
  rintro e w' ⟨rfl, hm, k⟩
  have k2 : Chg (fun k => k = cb ∨ L.SM k ∨ L.SB k) w w' := k.mono fun _ _ e => .inr e
  refine ⟨rfl, L.grow w w', Ext.grow L w w', ⟨h.sp.unit h.ap hm (storeF_stay s.u _ _ _ _) k2, h.co.chg k fun e => ?_, fun e => ?_⟩, k.mono fun j _ e => ?_⟩
  · rcases e with e | e
    · exact h.ap (.inr (.inl e))
    · exact h.ap (.inr (.inr (.inl e)))
  · rcases (Ext.grow L w w').2.2 cb e with e | e
    · exact h.ap e
    · have := h.co.blk.lt; omega
  · rcases e with e | e
    · exact .inr (.inr (.inl e))
    · exact .inr (.inr (.inr (.inl e)))
set_option maxHeartbeats 2000000 in
set_option maxRecDepth 100000 in
theorem spread_in {w : World} {S : Nat → Prop} {fm sh : Nat} {l : List (Nat × Nat)} (h : FmAt w S fm sh l) (hl : l.length ≤ 1000) {L : Nat → Pl} {s : Nat → Spc} {c : Nat → Cor} (hP : Parts w l L s c) (hSd : ∀ k, S k → k < w.heap.size ∧ ¬ InP l L k)
    (hs : ∀ (j : Nat) (q : Nat × Nat), l[j]? = some q → 0 < (s j).shape.shared ∧ (s j).shape.shared ≤ 65536) (op rd rs rt im cause : Int) (pc old new : Nat) (hn : new < 18446744073709551616) :
    Calls Tryz.prog 112 #[.pointer (some ⟨fm, 0, none⟩), .agg #[.bool true, .int .i64 op, .int .i64 rd, .int .i64 rs, .int .i64 rt, .int .i64 im, .int .u64 pc, .int .i64 cause, .int .i64 2, .int .u64 1073741824, .int .i64 8, .int .u64 old, .int .u64 new]] w (RetW (.tuple #[]) fun w' => ∃ L' s', Parts w' l L' s' c ∧ (∀ (j : Nat) (q : Nat × Nat), l[j]? = some q → s' j = lay8 (s j) new) ∧ ExtP l L L' w.heap.size ∧ Chg (InP l L) w w') := by
  have c0 := (Chg.refl NoB w).alloc (.cells #[.bool true, .int .i64 op, .int .i64 rd, .int .i64 rs, .int .i64 rt, .int .i64 im, .int .u64 pc, .int .i64 cause, .int .i64 2, .int .u64 1073741824, .int .i64 8, .int .u64 old, .int .u64 new] 84)
  have hD := Blk.new w #[.bool true, .int .i64 op, .int .i64 rd, .int .i64 rs, .int .i64 rt, .int .i64 im, .int .u64 pc, .int .i64 cause, .int .i64 2, .int .u64 1073741824, .int .i64 8, .int .u64 old, .int .u64 new] 84
  obtain ⟨v, hB, hS⟩ := h.ex
  obtain ⟨vp, vc, rfl⟩ := hS.form
  have f0 := (hB.alloc (.cells #[.bool true, .int .i64 op, .int .i64 rd, .int .i64 rs, .int .i64 rt, .int .i64 im, .int .u64 pc, .int .i64 cause, .int .i64 2, .int .u64 1073741824, .int .i64 8, .int .u64 old, .int .u64 new] 84)).cell' (i := 0) (v := .slice vp l.length vc) rfl
  have fl := (hB.alloc (.cells #[.bool true, .int .i64 op, .int .i64 rd, .int .i64 rs, .int .i64 rt, .int .i64 im, .int .u64 pc, .int .i64 cause, .int .i64 2, .int .u64 1073741824, .int .i64 8, .int .u64 old, .int .u64 new] 84)).lt
  have H := Lib.hid (h.chg c0 fun _ _ => id)
  have HPP := Lib.hid (hP.chg0 c0)
  have HSH := Lib.hid hs
  have HNW := Lib.hid hn
  have HSd : Hid (∀ k, S k → ¬ InP l L k) := Lib.hid fun k hk => (hSd k hk).2
  have HSl : Hid (∀ k, S k → k < w.heap.size) := Lib.hid fun k hk => (hSd k hk).1
  have HDN : Hid (¬ InP l L w.heap.size) := Lib.hid fun e => by have := hP.lt _ e; omega
  have HZ : Hid ((w.alloc (.cells #[.bool true, .int .i64 op, .int .i64 rd, .int .i64 rs, .int .i64 rt, .int .i64 im, .int .u64 pc, .int .i64 cause, .int .i64 2, .int .u64 1073741824, .int .i64 8, .int .u64 old, .int .u64 new] 84)).heap.size = w.heap.size + 1) := Lib.hid (by simp)
  have HC := Lib.hid c0
  have HFM := Lib.hid h.s
  clear h hs hB hS c0 hSd hn hP
  go_enter Tryz.func112, Tryz.ntmps112
  go_wp2_with fail
  generalize w.alloc (.cells #[.bool true, .int .i64 op, .int .i64 rd, .int .i64 rs, .int .i64 rt, .int .i64 im, .int .u64 pc, .int .i64 cause, .int .i64 2, .int .u64 1073741824, .int .i64 8, .int .u64 old, .int .u64 new] 84) = w0 at *
  generalize hdb : w.heap.size = db at *
  have HDB := Lib.hid hdb
  clear hdb
  have g : ∀ w', Chg (InP l L) w0 w' → ∀ i, w'.cell? ⟨db, i, none⟩ = #[.bool true, .int .i64 op, .int .i64 rd, .int .i64 rs, .int .i64 rt, .int .i64 im, .int .u64 pc, .int .i64 cause, .int .i64 2, .int .u64 1073741824, .int .i64 8, .int .u64 old, .int .u64 new][i]? := fun w' k i => (k.blk hD HDN.out).cell i
  have gl : ∀ w', Chg (InP l L) w0 w' → db < w'.heap.size := fun w' k => (k.blk hD HDN.out).lt
  clear hD
  go_loopg [13] l.length (fun k iv wr => ∃ (i : Nat) (L' : Nat → Pl) (s' : Nat → Spc), iv = .int .i64 i ∧ i ≤ l.length ∧ k = l.length - i ∧ Parts wr l L' s' c ∧ (∀ (j : Nat) (q : Nat × Nat), l[j]? = some q → s' j = if j < i then lay8 (s j) new else s j) ∧ ExtP l L L' w0.heap.size ∧ Chg (InP l L) w0 wr)
  case atStart => exact ⟨0, L, s, rfl, by omega, by omega, HPP.out, fun j q _ => (if_neg (by omega)).symm, ExtP.refl _ _ _, Chg.refl _ _⟩
  case round =>
    obtain ⟨i, L', s', rfl, hin, hk, hPr, hsr, hEr, hC⟩ := hrel
    have HK := Lib.hid hk
    clear hk
    by_cases hi : i < l.length
    · have t1 : decide ((i : Int) < l.length) = true := decide_eq_true (by omega)
      have t2 : decide (i < l.length) = true := decide_eq_true hi
      obtain ⟨q, hq⟩ : ∃ q, l[i]? = some q := ⟨l[i]'hi, List.getElem?_eq_getElem _⟩
      have hFr := H.out.chg hC HSd.out
      obtain ⟨g2, off, cap, hB, hg, hgl, h0, h1⟩ := hFr.part hq
      have ev := Option.some.inj ((hC.cell f0 (HSd.out fm HFM.out)).symm.trans (hB.cell' (i := 0) (v := .slice (some ⟨g2, off, none⟩) l.length cap) rfl))
      injection ev with e1 e2 e3
      subst e1 e3
      obtain ⟨hqb, hMc⟩ := hPr.mc i q hq
      rw [hqb] at h1
      have hsi : s' i = s i := (hsr i q hq).trans (if_neg (by omega))
      rw [hsi] at hMc
      have ca : Chg NoB wr (wr.alloc (.cells #[.pointer (some ⟨q.1, 0, none⟩), .pointer (some ⟨(L' i).pb, 0, none⟩)] 159)) := (Chg.refl NoB wr).alloc _
      have HW := Lib.hid (which_in (hMc.sp.chg0 ca) 1073741824 0 (by omega) (by omega) (by omega) (HSH.out i q hq).2 (by have := (HSH.out i q hq).1; omega) (HSH.out i q hq).1)
      have HMc := Lib.hid (hMc.chg0 ca)
      have HPr := Lib.hid hPr
      have HCr := Lib.hid hC
      have HEr := Lib.hid hEr
      have HSr := Lib.hid hsr
      have HQ := Lib.hid hq
      have HSI := Lib.hid hsi
      have BP := Lib.hid (Blk.new wr #[.pointer (some ⟨q.1, 0, none⟩), .pointer (some ⟨(L' i).pb, 0, none⟩)] 159)
      have hCa := hC.then0 ca
      have gg := g _ hCa
      have ggl := gl _ hCa
      have HCa := Lib.hid hCa
      clear hB hg hq hMc hPr hC hEr hsr hsi hqb hCa ca hFr
      go_wp2_with fail
      refine HW.out.mono ?_
      rintro e w9 ⟨rfl, hw⟩
      subst hw
      go_upto_region 6 with fail
      obtain ⟨wa, hwa⟩ : ∃ x, wr.alloc (.cells #[.pointer (some ⟨q.1, 0, none⟩), .pointer (some ⟨(L' i).pb, 0, none⟩)] 159) = x := ⟨_, rfl⟩
      have HRA : Hid (Chg NoB wr wa) := Lib.hid (hwa ▸ (Chg.refl NoB wr).alloc _)
      rw [hwa] at HMc BP gg ggl HCa
      simp only [hwa]
      clear hwa HW gg ggl
      generalize wr.heap.size = b5 at *
      have g' : ∀ w', Chg NoB wa w' → ∀ i, w'.cell? ⟨db, i, none⟩ = #[.bool true, .int .i64 op, .int .i64 rd, .int .i64 rs, .int .i64 rt, .int .i64 im, .int .u64 pc, .int .i64 cause, .int .i64 2, .int .u64 1073741824, .int .i64 8, .int .u64 old, .int .u64 new][i]? := fun w' k => g w' (HCa.out.then0 k)
      have gl' : ∀ w', Chg NoB wa w' → db < w'.heap.size := fun w' k => gl w' (HCa.out.then0 k)
      have p' := BP.out.ever
      have pl' := BP.out.everL
      have cc := Chg.refl NoB wa
      clear g gl h0 h1 hgl
      have HUn : Hid (∀ w', Chg NoB wa w' → Calls Tryz.prog 111 #[.pointer (some ⟨(L' i).pb, 0, none⟩)] w' (RetW (.pointer (some ⟨(L' i).ub, 0, none⟩)) fun w'' => w'' = w')) := Lib.hid fun w' k => sUnit_any (HMc.out.chg0 k).sp
      have HSt : Hid (∀ w', Chg NoB wa w' → Calls Tryz.prog 148 #[.pointer (some ⟨(L' i).ub, 0, none⟩), .int .u64 1073741824, .int .i64 8, .int .u64 new, .int .i64 0] w' (RetW (.int .i64 (storeF (s i).u 1073741824 8 new 0).1) fun w'' => ∃ L5 : Pl, Ext (L' i) L5 w' ∧ Mc w'' L5 (lay8 (s i) new) q.1 (c i) ∧ Chg (Blks (L' i) q.1) w' w'')) := Lib.hid fun w' k => spStore_any (HMc.out.chg0 k) new HNW.out
      refine wp_region_mix 9 [(true, 0), (true, 1), (true, 3), (true, 4), (true, 5), (true, 6), (true, 7), (true, 8), (false, 2)] (fun w' => Chg NoB wa w') (by kernel_rfl) (by kernel_rfl) (fun _ _ _ _ _ h => h) (cc.drew) ?_
      simp only [pickMix_nil, pickMix_cons, Option.getD_some, List.getElem?_toArray, List.getElem?_cons_zero, List.getElem?_cons_succ, List.cons_append, List.nil_append, List.drop_succ_cons, List.drop_zero]
      iterate 8
       refine wpMix_take rfl ?_
       apply Exists.intro
       refine ⟨fun wS hS => ?_, ?_⟩
       · try dsimp only at hS
         have cS := hS
         go_simp
         try rfl
       simp only [Act.put, List.setIfInBounds_toArray, List.set_cons_zero, List.set_cons_succ]
      refine wpMix_force rfl (fun K hK => ?_)
      go_simp
      refine (HUn.out _ cc.drew).mono ?_
      rintro e w9 ⟨rfl, hw⟩
      subst hw
      refine hK _ _ cc.drew ?_
      clear hK K
      refine wpMix_nil ?_
      go_wp2_with fail
      refine (HSt.out _ cc.drew).mono ?_
      rintro e w5 ⟨rfl, L5, hE5, hM5, hC5⟩
      obtain ⟨p1, p2, p3⟩ := (HPr.out.chg0 (HRA.out.step cc.drew)).put HQ.out hM5 hE5 hC5
      have ec : upd c i (c i) = c := funext fun j => by unfold upd; split <;> first | rfl | (rename_i e; rw [e])
      rw [ec] at p1
      have hz : w0.heap.size ≤ (wa.drew).heap.size := (HCa.out.then0 cc.drew).size
      have HE5 := Lib.hid (HEr.out.trans p2 hz)
      have HC5 : Hid (Chg (InP l L) w0 w5) := Lib.hid ((HCa.out.then0 cc.drew).trans p3 fun k hk e => (HEr.out.inP e).elim id fun e => by omega)
      have HP5 := Lib.hid p1
      have HS5 : Hid (∀ (j : Nat) (r : Nat × Nat), l[j]? = some r → upd s' i (lay8 (s i) new) j = if j < i + 1 then lay8 (s j) new else s j) := Lib.hid fun j r hj => by
        by_cases e : j = i
        · subst e; rw [upd_at, if_pos (by omega)]
        · rw [upd_ne _ _ e, HSr.out j r hj]
          by_cases e2 : j < i
          · rw [if_pos e2, if_pos (by omega)]
          · rw [if_neg e2, if_neg (by omega)]
      clear p1 p2 p3 hE5 hM5 hC5 hz g' gl' p' pl' cc
      go_wp2_with fail
      go_roundg (l.length - (i + 1))
      case rel => exact ⟨i + 1, _, _, by go_num, by omega, rfl, HP5.out, HS5.out, HE5.out, HC5.out⟩
      case measure => rw [HK.out]; omega
    · have t1 : decide ((i : Int) < l.length) = false := decide_eq_false (by omega)
      have t2 : decide (i < l.length) = false := decide_eq_false hi
      have HF : Hid (∃ L' s', Parts wr l L' s' c ∧ (∀ (j : Nat) (q : Nat × Nat), l[j]? = some q → s' j = lay8 (s j) new) ∧ ExtP l L L' w.heap.size ∧ Chg (InP l L) w wr) := Lib.hid ⟨L', s', hPr, fun j q hj => by
        have := (List.getElem?_eq_some_iff.1 hj).1
        rw [hsr j q hj, if_pos (by omega)], hEr.less HC.out.size, (HC.out.mono (S' := InP l L) fun _ _ e => e.elim).trans hC fun _ _ e => e⟩
      clear hPr hsr hEr hC
      go_wp2_with fail
      refine bodyPost_end (results_none rfl _ _ _) rfl ?_
      exact ⟨rfl, HF.out⟩
end Go.Proofs.YtleilfkcjollaaaGreat
set_option linter.unusedVariables false
set_option linter.unusedSimpArgs false
namespace Go.Proofs.YtleilfkcjollaaaGreat
open Go.RowKit Go.RR
/-- A new node's space of one shared page, which may be written. -/
def fsS (d : List Nat) : Spc := (setF (ndSp 1 d) 0 2).2
theorem fs_made {q : List In} (hr : ∀ i ∈ q, rightB i = true) (hl : q.length ≤ 1000) : SetOk (ndSp 1 (progB q)) 0 2 ∧ FS (fsS (progB q)) q 0 := by
  have hle : (progB q).length ≤ 4096 := by have := progB_len q; omega
  obtain ⟨-, -, cl0, -, -, t1, t0, I0, hn, hfi, no0, cl, ol, hc⟩ := nd_new 1 (.inl rfl) (progB q) (progB_lt q) hle
  have hp0 : HasProg (ndSp (1 : Nat) (progB q)) q := HasProg.of (by rw [cl]; omega) hr hc
  have hr1 : ∀ p, rightOf (ndSp (1 : Nat) (progB q)) p = 0 := fun p => rfl
  have hf1 : ∀ p, frameOf (ndSp (1 : Nat) (progB q)) p = none := fun p => rfl
  have hs1 : (ndSp (1 : Nat) (progB q)).shape = ndShp 1 := rfl
  obtain ⟨S1, St1, R1, F1, Z1, t1', t0', I2, n2, a1, a0, a2⟩ := set_inv I0 (p := 0) (r := 2) (by rw [hs1]; decide) (by decide) (by decide) (fun _ => by
    rw [hr1, hf1, hn, hfi, if_pos rfl, (no0 1 (by decide)).1, (no0 (512 + 0 / 512) (by decide)).2]
    decide)
  have e2 : (setF (ndSp (1 : Nat) (progB q)) ((0 : Nat) : Int) 2).2 = fsS (progB q) := rfl
  rw [e2] at St1 R1 F1 I2 n2 Z1
  have q0 : rightOf (fsS (progB q)) ((0 : Nat) : Int) = 2 := by
    have := R1 0
    rwa [if_pos (by decide)] at this
  obtain ⟨f, hf⟩ := Option.isSome_iff_exists.1 (I2.rf ((0 : Nat) : Int) (by rw [q0]; decide))
  refine ⟨S1, ⟨t1', t0', I2⟩, hp0.stay St1, ⟨fun _ => 0, ⟨q0, f, hf, fun k hk => getW_zeros fun i hi => ?_⟩, rfl⟩, ?_⟩
  · rw [Nat.add_assoc]
    exact Z1 f (hf1 _) hf _ (by omega)
  · rw [St1.shape]
    exact ⟨(by decide : (0 : Int) < 1), (by decide : (1 : Int) ≤ 65536)⟩
end Go.Proofs.YtleilfkcjollaaaGreat
