/- The sender: again. -/
import Derived.Test.YtokigldggkkbcaaSend2
set_option linter.unusedVariables false
namespace Go.Proofs.Ytokigldggkkbcaa
open Go.RowKit Go.RR

theorem OutAt.rebuild {w0 w1 w2 : World} {S S1 S2 : Nat → Prop} {vs : List Value} {q q2 v : Value} {outs : List (Int × ByteArray)} {seq : Int} {s : ByteArray} {x : Nat}
    (d1 : ∀ k, S1 k → (S k ∧ k < w0.heap.size) ∧ ¬ S2 k) (d2 : ∀ k, S2 k → S k ∧ k < w0.heap.size) (hO : Own w0 S1 100 2 q outs.length (icells outs vs)) (hR : ORows w0 S2 vs (outs.map (·.2)))
    (C1 : Chg NoB w0 w1) (hv : Own w1 (fun k => w0.heap.size ≤ k) 5 1 v s.size (byteCells s)) (o2 : Own w2 (fun k => q.ownBlock = some k ∨ k = x) 100 2 q2 (outs.length + 1) (icells outs vs ++ [.int .u64 seq, v])) (hx : w1.heap.size ≤ x) (C2 : Chg (fun k => q.ownBlock = some k) w1 w2) :
    OutAt w2 (fun k => S k ∨ w0.heap.size ≤ k) q2 (outs ++ [(seq, s)]) ∧ Chg S w0 w2 := by
  have hOB := hO.ownBlock
  have hz1 := C1.size
  have hvl : vs.length = outs.length := by have := hR.1; simpa using this
  refine ⟨⟨fun k => q.ownBlock = some k ∨ k = x, fun k => S2 k ∨ (w0.heap.size ≤ k ∧ k < w1.heap.size), vs ++ [v], ?_, ?_, ?_, ?_⟩, ?_⟩
  · rintro k (hk | hk)
    · obtain ⟨a1, a2⟩ := hOB k hk
      obtain ⟨⟨b1, b2⟩, b3⟩ := d1 k a1
      exact ⟨.inl b1, fun e => e.elim b3 (fun e => by omega)⟩
    · exact ⟨.inr (by omega), fun e => e.elim (fun e => by have := (d2 k e).2; omega) (fun e => by omega)⟩
  · rintro k (hk | hk)
    · exact .inl (d2 k hk).1
    · exact .inr hk.1
  · rw [icells_app _ _ _ _ hvl, List.length_append]; exact o2
  · rw [List.map_append]
    refine ORows.snoc ?_ ?_
    · exact ((hR.chg0 C1).chg C2 fun k hk e => (d1 k (hOB k e).1).2 hk).monoIn fun k _ hk => .inl hk
    · exact ((hv.monoIn (S' := fun k => w0.heap.size ≤ k ∧ k < w1.heap.size) fun k a b => ⟨b, a⟩).chg C2 fun k hk e => by have := (hOB k e).2; omega).mono fun k hk => .inr hk
  · exact (C1.mono (S' := S) fun _ _ h => h.elim).trans C2 fun k hk e => (d1 k (hOB k e).1).1.1

def agF (now longest : Int) (f : Fl) : Fl := if f.due ≤ now then ⟨f.seq, f.b, now + min (2 * f.wait) longest, min (2 * f.wait) longest⟩ else f
def agOut (now : Int) (fl : List Fl) : List (Int × ByteArray) := (fl.filter fun f => decide (f.due ≤ now)).map fun f => (f.seq, f.b)
theorem agOut_snoc (now : Int) (fl : List Fl) (f : Fl) : agOut now (fl ++ [f]) = agOut now fl ++ if f.due ≤ now then [(f.seq, f.b)] else [] := by
  unfold agOut
  rw [List.filter_append, List.map_append]
  congr 1
  by_cases h : f.due ≤ now
  · rw [if_pos h]; simp [h]
  · rw [if_neg h]; simp [h]
theorem agF_b (now longest : Int) (f : Fl) : (agF now longest f).b = f.b := by unfold agF; split <;> rfl
theorem agF_seq (now longest : Int) (f : Fl) : (agF now longest f).seq = f.seq := by unfold agF; split <;> rfl
/-- Half gone over. -/
def agMid (now longest : Int) (fl : List Fl) (i : Nat) : List Fl := (fl.take i).map (agF now longest) ++ fl.drop i
theorem agMid_len (now longest : Int) (fl : List Fl) (i : Nat) : (agMid now longest fl i).length = fl.length := by simp [agMid]; omega
theorem agMid_at (now longest : Int) (fl : List Fl) (i : Nat) (f : Fl) (h : fl[i]? = some f) : (agMid now longest fl i)[i]? = some f := by
  have hl := (List.getElem?_eq_some_iff.1 h).1
  unfold agMid
  rw [List.getElem?_append_right (by simp; omega)]
  simp only [List.length_map, List.length_take, Nat.min_eq_left (Nat.le_of_lt hl), Nat.sub_self, List.getElem?_drop, Nat.add_zero]
  exact h
theorem agMid_succ (now longest : Int) (fl : List Fl) (i : Nat) (f : Fl) (h : fl[i]? = some f) : agMid now longest fl (i + 1) = (agMid now longest fl i).set i (agF now longest f) := by
  have hl := (List.getElem?_eq_some_iff.1 h).1
  unfold agMid
  have ht : fl.take (i + 1) = fl.take i ++ [f] := by rw [List.take_add_one, h]; rfl
  have hd : fl.drop i = f :: fl.drop (i + 1) := by
    rw [List.drop_eq_getElem_cons hl]
    congr 1
    rw [List.getElem?_eq_getElem hl] at h
    exact Option.some.inj h
  rw [ht, hd, List.map_append, List.set_append_right _ _ (by simp; omega)]
  simp only [List.length_map, List.length_take, Nat.min_eq_left (Nat.le_of_lt hl), Nat.sub_self, List.set_cons_zero, List.map_cons, List.map_nil, List.append_assoc, List.cons_append, List.nil_append]
theorem fcells_set : ∀ (fl : List Fl) (vs : List Value) (i : Nat) (f : Fl) (d wt : Int), fl[i]? = some f → vs.length = fl.length → fcells (fl.set i ⟨f.seq, f.b, d, wt⟩) vs = ((fcells fl vs).set (i * 4 + 3) (.int .i64 wt)).set (i * 4 + 2) (.int .i64 d)
  | [], _, i, f, d, wt, h, _ => by simp at h
  | g :: fl, [], i, f, d, wt, _, h => by simp at h
  | g :: fl, u :: vs, 0, f, d, wt, h1, h2 => by simp at h1; subst h1; rfl
  | g :: fl, u :: vs, i + 1, f, d, wt, h1, h2 => by
    have := fcells_set fl vs i f d wt (by simpa using h1) (by simpa using h2)
    rw [show (i + 1) * 4 + 3 = (i * 4 + 3) + 4 by omega, show (i + 1) * 4 + 2 = (i * 4 + 2) + 4 by omega]
    simp only [List.set_cons_succ, fcells, this]
    rfl
theorem fbodies_mid (now longest : Int) (fl : List Fl) (i : Nat) : fbodies (agMid now longest fl i) = fbodies fl := by
  unfold fbodies agMid
  rw [List.map_append, List.map_map]
  have : (fl.take i).map ((fun f => byteCells f.b) ∘ agF now longest) = (fl.take i).map fun f => byteCells f.b := List.map_congr_left fun f _ => by simp [agF_b]
  rw [this, ← List.map_append, List.take_append_drop]
theorem agMid_all (now longest : Int) (fl : List Fl) : agMid now longest fl fl.length = fl.map (agF now longest) := by simp [agMid]

def FlOk (fl : List Fl) : Prop := ∀ f ∈ fl, (0 ≤ f.wait ∧ f.wait ≤ 1000) ∧ f.b.size ≤ 4120

set_option maxHeartbeats 4000000 in
set_option maxRecDepth 100000 in
theorem againAt {S : Nat → Prop} {w : World} {b : Nat} {window wait longest : Int} {line : List ByteArray} {fl : List Fl} {next : Int} (h : SendAt S w b window wait longest line fl next) (now : Int) (hfl : FlOk fl) (hll : 0 ≤ longest ∧ longest ≤ 1000) (hlen : fl.length ≤ 1000) (hn : 0 ≤ now ∧ now ≤ 1099511627776) :
    Calls Try.prog 79 #[.pointer (some ⟨b, 0, none⟩), .int .i64 now] w (RetV fun q w' => SendAt S w' b window wait longest line (fl.map (agF now longest)) next ∧ OutAt w' (fun k => w.heap.size ≤ k) q (agOut now fl) ∧ Chg S w w') := by
  obtain ⟨i0, hi0, hz0, hz1, hz2⟩ := info_parts ITinfo
  obtain ⟨S1, S2, S3, lv, fv, ls, fs, h0, h1, h2, h3, hB, hL, hR, hF, hQ⟩ := h.bound (S' := fun k => S k ∧ k < w.heap.size) fun k h1 h2 => ⟨h2, h1⟩
  obtain ⟨p1, c1, rfl⟩ := hL.form
  obtain ⟨p2, c2, rfl⟩ := hF.form
  have hfs : fs.length = fl.length := by have := hQ.1; simpa [fbodies] using this
  have x4 : w.cell? ⟨b, 4, none⟩ = some (.slice p2 fl.length c2) := hB.cell' (i := 4) (by rfl)
  have hbl := hB.lt
  have HB := Lib.hid hB
  have HL := Lib.hid hL
  have HR := Lib.hid hR
  have HF := Lib.hid hF
  have HQ := Lib.hid hQ
  have H1 := Lib.hid h1
  have H2 := Lib.hid h2
  have H3 := Lib.hid h3
  have HFS := Lib.hid hfs
  have HFL := Lib.hid hfl
  obtain ⟨hn0, hn1⟩ := hn
  obtain ⟨hll0, hll1⟩ := hll
  clear hB hL hR hF hQ h1 h2 h3 h hfs hfl
  go_enter Try.func79, Try.ntmps79
  go_wp2_with fail
  go_loopg [5, 13] fl.length (fun m o ix wr => ∃ i : Nat, i + m = fl.length ∧ ix = .int .i64 i ∧ Own wr S2 133 4 (.slice p2 fl.length c2) fl.length (fcells (agMid now longest fl i) fs) ∧ OutAt wr (fun k => w.heap.size ≤ k) o (agOut now (fl.take i)) ∧ Chg S2 w wr)
  case atStart => exact ⟨0, by omega, rfl, by simpa [agMid] using HF.out, OutAt.nil _ _, Chg.refl _ _⟩
  case round =>
    obtain ⟨i, hi, rfl, hF, hO, hC⟩ := hrel
    have HI := Lib.hid hi
    have hil : i ≤ fl.length := by omega
    have HFr := Lib.hid hF
    have HO := Lib.hid hO
    have hzr := hC.size
    have B1 := hC.blk HB.out (fun e => (H2.out _ e).2.1 rfl)
    clear hi hF hO x4
    by_cases hlt : i < fl.length
    · obtain ⟨f, hf⟩ : ∃ f, fl[i]? = some f := ⟨fl[i], by simp [hlt]⟩
      obtain ⟨v, hv, hvs⟩ := HQ.out.2 i _ (show (fbodies fl)[i]? = some (byteCells f.b) by simp [fbodies, hf])
      rw [byteCells_len] at hvs
      obtain ⟨pv, cv, rfl⟩ := hvs.form
      obtain ⟨g, off, cap, e, hg, hgl, hcap, hcell, hfr⟩ := HFr.out.spot (by omega)
      cases e
      obtain ⟨a0, a1, a2, a3⟩ := fcells_at _ _ i f _ (agMid_at now longest fl i f hf) hv
      have k0 := hcell _ _ a0
      have k1 := hcell _ _ a1
      have k2 := hcell _ _ a2
      have k3 := hcell _ _ a3
      rw [← Nat.add_assoc] at k1 k2 k3
      have y4 : wr.cell? ⟨b, 4, none⟩ = some (.slice (some ⟨g, off, none⟩) fl.length c2) := B1.cell' (i := 4) (by rfl)
      have y2 : wr.cell? ⟨b, 2, none⟩ = some (.int .i64 longest) := B1.cell' (i := 2) (by rfl)
      have ybl := B1.lt
      have l0 : (0 : Int) ≤ i := by omega
      have l1 : (i : Int) < fl.length := by omega
      have hgb : g ≠ b := (H2.out g hg).2.1
      obtain ⟨⟨hw0, hw1⟩, hbs⟩ := HFL.out f (List.mem_of_getElem? hf)
      have hsn := agOut_snoc now (fl.take i) f
      have htk : fl.take (i + 1) = fl.take i ++ [f] := by rw [List.take_add_one, hf]; rfl
      rw [← htk] at hsn
      have hms := agMid_succ now longest fl i f hf
      have HSN := Lib.hid hsn
      have HMS := Lib.hid hms
      have HFF := Lib.hid hf
      have HVS := Lib.hid hvs
      have HCELL := Lib.hid hcell
      have hfr2 := hfr (off + i * 4 + 2)
      have hfr3 := hfr (off + i * 4 + 3)
      have HB1 := Lib.hid B1
      have hma := agMid_at now longest fl i f hf
      have HMA := Lib.hid hma
      have HVV := Lib.hid hv
      clear hsn htk hms hf hvs hcell hfr a0 a1 a2 a3 B1 hma hv
      by_cases hdue : f.due ≤ now
      · have hd : decide (now < f.due) = false := by simp; omega
        have hd' : ¬ now < f.due := by omega
        obtain ⟨wt, hwt⟩ : ∃ wt, min (2 * f.wait) longest = wt := ⟨_, rfl⟩
        have hwtb : 0 ≤ wt ∧ wt ≤ 1000 := by omega
        have HWT := Lib.hid hwt
        clear hwt hdue
        go_upto_region 7 with fail
        go_cut [] (fun wx => ∃ w2, Chg NoB wr w2 ∧ wx = w2.setCell ⟨g, off + i * 4 + 3, none⟩ (.int .i64 wt))
        case first =>
          by_cases hm : 2 * f.wait ≤ longest
          · have HE := Lib.hid (show 2 * f.wait = wt by have := HWT.out; omega)
            refine wp_region_plan 13 [] [0, 1, 2, 3, 4, 5, 6, 7, 8, 9, 10, 11, 12] (by kernel_rfl) (by kernel_rfl) (fun _ _ _ _ _ h => h) ?_
            simp only [pickOps_nil, pickOps_cons, Option.getD_some, List.getElem?_toArray, List.getElem?_cons_zero, List.getElem?_cons_succ, List.cons_append, List.nil_append, List.drop_succ_cons, List.drop_zero]
            repeat (go_big_quiet_step (fail))
            refine wpQuiet_nil ?_
            intro w2 hw2
            have C2 := Chg.of_ex hw2
            clear hw2
            have O2 := HFr.out.chg0 C2
            obtain ⟨-, q1, q2, q3⟩ := O2.at
            have z3 := C2.cell k3 id
            have zf := q3 (off + i * 4 + 3)
            clear q2 q3 O2
            go_wp2_with fail
            go_meet
            exact ⟨w2, C2, by rw [HE.out]⟩
          · have HE := Lib.hid (show longest = wt by have := HWT.out; omega)
            have hm' : longest < 2 * f.wait := by omega
            refine wp_region_plan 13 [] [0, 1, 2, 3, 4, 5, 6, 7, 8, 9, 10, 11, 12] (by kernel_rfl) (by kernel_rfl) (fun _ _ _ _ _ h => h) ?_
            simp only [pickOps_nil, pickOps_cons, Option.getD_some, List.getElem?_toArray, List.getElem?_cons_zero, List.getElem?_cons_succ, List.cons_append, List.nil_append, List.drop_succ_cons, List.drop_zero]
            repeat (go_big_quiet_step (fail))
            refine wpQuiet_nil ?_
            intro w2 hw2
            have C2 := Chg.of_ex hw2
            clear hw2
            have O2 := HFr.out.chg0 C2
            obtain ⟨-, q1, q2, q3⟩ := O2.at
            have z3 := C2.cell k3 id
            have zf := q3 (off + i * 4 + 3)
            clear q2 q3 O2
            go_wp2_with fail
            go_meet
            exact ⟨w2, C2, by rw [HE.out]⟩
        case rest =>
          obtain ⟨w2, C2, rfl⟩ := hcut
          have hli : i * 4 + 3 < fl.length * 4 := by omega
          have O3 := (HFr.out.chg0 C2).setAt (k := i * 4 + 3) hli (.int .i64 wt)
          rw [← Nat.add_assoc] at O3
          have CS := (Chg.refl S2 w2).setCell (a := ⟨g, off + i * 4 + 3, none⟩) (.inl hg) (.int .i64 wt)
          have C3 : Chg S2 wr (w2.setCell ⟨g, off + i * 4 + 3, none⟩ (.int .i64 wt)) := (C2.mono (S' := S2) fun _ _ h => h.elim).trans CS fun _ _ h => h
          generalize hw3 : w2.setCell ⟨g, off + i * 4 + 3, none⟩ (.int .i64 wt) = w3 at *
          obtain ⟨-, q1, q2, q3⟩ := O3.at
          have z3 := q2 (i * 4 + 3) (.int .i64 wt) (by rw [List.getElem?_set_self (by have := (HFr.out).1; omega)])
          have z2 := q2 (i * 4 + 2) (.int .i64 f.due) (by
            rw [List.getElem?_set_ne (by omega)]
            obtain ⟨a0, a1, a2, a3⟩ := fcells_at _ _ i f _ HMA.out HVV.out
            exact a2)
          rw [← Nat.add_assoc] at z3 z2
          have zf := q3 (off + i * 4 + 2)
          have HO3 := Lib.hid O3
          clear hw3 q2 q3 O3 CS C2 k0 k1 k2 k3 y4 y2 ybl hfr2 hfr3
          go_upto_region 9 with fail
          have O4 := HO3.out.setAt (k := i * 4 + 2) (by omega) (.int .i64 (now + wt))
          rw [← Nat.add_assoc] at O4
          have CS := (Chg.refl S2 w3).setCell (a := ⟨g, off + i * 4 + 2, none⟩) (.inl hg) (.int .i64 (now + wt))
          have C4 : Chg S2 wr (w3.setCell ⟨g, off + i * 4 + 2, none⟩ (.int .i64 (now + wt))) := C3.trans CS fun _ _ h => h
          generalize hw4 : w3.setCell ⟨g, off + i * 4 + 2, none⟩ (.int .i64 (now + wt)) = w4 at *
          have hag : agF now longest f = ⟨f.seq, f.b, now + wt, wt⟩ := by unfold agF; rw [if_pos (by omega), HWT.out]
          have hst := fcells_set (agMid now longest fl i) fs i f (now + wt) wt HMA.out (by rw [agMid_len]; exact HFS.out)
          rw [← hag, ← HMS.out] at hst
          rw [← hst] at O4
          have hag2 : (agMid now longest fl (i + 1))[i]? = some ⟨f.seq, f.b, now + wt, wt⟩ := by
            rw [HMS.out, hag, List.getElem?_set_self (by rw [agMid_len]; omega)]
          obtain ⟨a0, a1, a2, a3⟩ := fcells_at _ _ i _ _ hag2 HVV.out
          obtain ⟨-, q1', q2, q3⟩ := O4.at
          have k0 := q2 _ _ a0
          have k1 := q2 _ _ a1
          have k2 := q2 _ _ a2
          have k3 := q2 _ _ a3
          rw [← Nat.add_assoc] at k1 k2 k3
          have HO4 := Lib.hid O4
          have HC4 := Lib.hid C4
          have hz4 := C4.size
          clear hw4 q2 q3 O4 CS C3 C4 a0 a1 a2 a3 hag hst hag2 z2 z3 zf HO3
          go_wp2_with fail
          have hO4 := HO.out.chg HC4.out fun k hk e => by have := (H2.out k e).1.2; omega
          have hV4 := (HVS.out.chg hC fun k hk e => (H2.out k e).2.2 hk).chg HC4.out fun k hk e => (H2.out k e).2.2 hk
          obtain ⟨T1, T2, vs, d1, d2, hOo, hOr⟩ := hO4.bound (S' := fun k => w.heap.size ≤ k ∧ k < w4.heap.size) fun k a b => ⟨b, a⟩
          have hol : (agOut now (fl.take i)).length ≤ 1000 := by
            have h1 : (agOut now (fl.take i)).length ≤ (fl.take i).length := by unfold agOut; rw [List.length_map]; exact List.length_filter_le _ _
            rw [List.length_take] at h1; omega
          have HSN2 := Lib.hid (show agOut now (fl.take (i + 1)) = agOut now (fl.take i) ++ [(f.seq, f.b)] by rw [HSN.out, if_pos (by omega)])
          generalize hoo : agOut now (fl.take i) = outs at *
          refine (itemAt f.seq (now + wt) wt _ f.b hV4 (by omega)).mono ?_
          rintro e w5 ⟨_, rfl, p5, c5, rfl, O5, C5⟩
          have A6 := (Chg.refl NoB w5).alloc (.cells #[.int .u64 f.seq, .slice p5 f.b.size c5] 100)
          have oA := (hOo.chg0 C5).chg0 A6
          have sA : Sl (w5.alloc (.cells #[.int .u64 f.seq, .slice p5 f.b.size c5] 100)) _ 2 (.slice (some ⟨w5.heap.size, 0, none⟩) 1 1) 1 [.int .u64 f.seq, .slice p5 f.b.size c5] := Sl.fresh w5 [.int .u64 f.seq, .slice p5 f.b.size c5] 100 1 rfl
          have one1 : ∀ u ∈ [Value.int .u64 f.seq, .slice p5 f.b.size c5], u.oneCell' = true := by simp [Value.oneCell']
          have b1 : outs.length + 1 ≤ maxLen := by unfold maxLen; omega
          have b2 : (outs.length + 1) * 32 ≤ 140737488355328 := by omega
          have HO5 := Lib.hid O5
          have HOO := Lib.hid hOo
          have HOR := Lib.hid hOr
          have D1 := Lib.hid d1
          have D2 := Lib.hid d2
          clear k0 k1 k2 k3 O5 hOo hOr d1 d2 hO4 hV4 hoo
          go_wp2_with (at_builtin; go_must (refine wpList_app rfl _ _ 87 rfl i0 _ 32 Try.underlying87 hi0 hz0 hz1 hz2 rfl rfl oA _ 1 _ rfl sA one1 b1 b2 ?_))
          intro v8 w8 o8 g8 _
          have C8 : Chg (fun k => Value.ownBlock u5 = some k) w5 w8 := (A6.mono (fun _ _ h => h.elim)).grown g8 (fun k hk => .inl hk)
          obtain ⟨R8, CC8⟩ := OutAt.rebuild (S := fun k => w.heap.size ≤ k) (fun k h => ⟨⟨(D1.out k h).1.1, (D1.out k h).1.2⟩, (D1.out k h).2⟩) (fun k h => ⟨(D2.out k h).1, (D2.out k h).2⟩) HOO.out HOR.out C5 HO5.out o8 (by first | omega | simp) C8
          rw [← HSN2.out] at R8
          have HR8 := Lib.hid (R8.bound (S' := fun k => w.heap.size ≤ k) fun k _ h => h.elim id (fun h => by omega))
          have HF8 := Lib.hid (HO4.out.chg CC8 fun k hk e => by have := (H2.out k hk).1.2; omega)
          have CF : Chg S2 w w8 := (hC.trans HC4.out fun _ _ h => h).trans CC8 fun k hk e => by omega
          clear o8 oA sA one1 b1 b2 g8 A6 C8 R8 C5 CC8
          go_wp2_with fail
          go_roundg (fl.length - (i + 1))
          case measure => have := HI.out; omega
          case rel => exact ⟨i + 1, by have := HI.out; omega, by go_num, HF8.out, HR8.out, CF⟩
      · have hd : decide (now < f.due) = true := by simp; omega
        have hd' : now < f.due := by omega
        have HSN2 := Lib.hid (show agOut now (fl.take (i + 1)) = agOut now (fl.take i) by rw [HSN.out, if_neg hdue, List.append_nil])
        have HMS2 := Lib.hid (show agMid now longest fl (i + 1) = agMid now longest fl i by
          rw [HMS.out]
          have : agF now longest f = f := by unfold agF; rw [if_neg hdue]
          rw [this]
          have h1 := HMA.out
          apply List.ext_getElem?
          intro j
          by_cases hj : i = j
          · subst hj; rw [List.getElem?_set_self (by rw [agMid_len]; omega), h1]
          · rw [List.getElem?_set_ne hj])
        clear hdue
        go_wp2_with fail
        go_roundg (fl.length - (i + 1))
        case measure => have := HI.out; omega
        case rel => exact ⟨i + 1, by have := HI.out; omega, by go_num, by rw [HMS2.out]; exact HFr.out, by rw [HSN2.out]; exact HO.out, hC⟩
    · obtain rfl : i = fl.length := by have := HI.out; omega
      go_wp2
      go_ret
      have hO := HO.out
      rw [List.take_length] at hO
      have hF := HFr.out
      rw [agMid_all] at hF
      refine ⟨_, rfl, ⟨S1, S2, S3, _, _, ls, fs, h0.1, fun k hk => ?_, fun k hk => ?_, fun k hk => ?_, B1, HL.out.chg hC fun k hk e => (H1.out k hk).2.2.1 e, HR.out.chg hC fun k hk e => (H2.out k e).2.2 hk, ?_, ?_⟩, hO, hC.mono fun k _ hk => (H2.out k hk).1.1⟩
      · obtain ⟨⟨x1, x2⟩, x3, x4, x5⟩ := H1.out k hk; exact ⟨x1, x3, x4, x5⟩
      · obtain ⟨⟨x1, x2⟩, x3, x4⟩ := H2.out k hk; exact ⟨x1, x3, x4⟩
      · exact ⟨(H3.out k hk).1.1, (H3.out k hk).2⟩
      · rw [List.length_map]; exact hF
      · have := HQ.out.chg hC fun k hk e => (H2.out k e).2.2 hk
        rw [show fbodies (fl.map (agF now longest)) = fbodies fl by simp [fbodies, agF_b]]
        exact this
end Go.Proofs.Ytokigldggkkbcaa
