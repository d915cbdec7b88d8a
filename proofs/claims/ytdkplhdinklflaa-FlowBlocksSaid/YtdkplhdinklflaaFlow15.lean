/- The blocks of a program, by the program. No condition. -/
import Derived.Test.YtdkplhdinklflaaFlow14
set_option linter.unusedVariables false
namespace Go.Proofs.Ytdkplhdinklflaa
open Go.RowKit Go.RR

theorem BkAt.low {w : World} {B B' : Nat} {q : Value} {bs : List Bk} (h : BkAt w B q bs) (hB : B' ≤ B) : BkAt w B' q bs := by
  obtain ⟨S1, S2, vs, d1, d2, h1, h2⟩ := h
  exact ⟨S1, S2, vs, fun k hk => ⟨⟨by have := (d1 k hk).1.1; omega, (d1 k hk).1.2⟩, (d1 k hk).2⟩, fun k hk => ⟨by have := (d2 k hk).1; omega, (d2 k hk).2⟩, h1, h2⟩
theorem begF_at {l : List In} {k : Nat} (h : k < (begF l).length) : (begF l).getD k 0 ≤ l.length := by
  have hm : (begF l).getD k 0 ∈ begF l := by
    rw [List.getD_eq_getElem?_getD, List.getElem?_eq_getElem h]
    exact List.getElem_mem _
  have := (begF_mem.1 hm).in
  omega
theorem begF_pos {l : List In} {k : Nat} (h : k + 1 < (begF l).length) : 0 < (begF l).getD (k + 1) 0 := by
  have h := List.pairwise_iff_getElem.1 (begF_lt l) k (k + 1) (by omega) h (by omega)
  rw [List.getD_eq_getElem?_getD, List.getElem?_eq_getElem (by assumption)]
  simp only [Option.getD_some]
  omega
theorem cntN_le (bs : List Nat) (n : Nat) : cntN bs n ≤ bs.length := List.countP_le_length

set_option maxHeartbeats 8000000 in
set_option maxRecDepth 100000 in
theorem fblocks_any (S : Nat → Prop) (v : Value) (l : List In) (w : World) (hs : Sl w S 5 v l.length (icells l)) (hl : l.length ≤ 40) (hr : ∀ i ∈ l, rightB i = true) :
    Calls Try.prog 39 #[v] w (RetSl fun y w' => BkAt w' w.heap.size y (blocksF l) ∧ Chg NoB w w') := by
  obtain ⟨i0, hi0, hz0, hz1, hz2⟩ := info_parts BTinfo
  obtain ⟨j0, hj0, jz0, jz1, jz2⟩ := info_parts INTinfo
  obtain ⟨pv, cv, rfl⟩ := hs.form
  have hs' := hs.monoIn (S' := fun k => k < w.heap.size) fun k h _ => h
  have HS := Lib.hid hs'
  have HR := Lib.hid hr
  have HBG := Lib.hid (begins_any _ _ l w hs' hl hr)
  clear hs hs' hr
  by_cases h0 : l.length = 0
  · have e : blocksF l = [] := by unfold blocksF; rw [if_pos h0]
    have q0 : ((l.length : Int) == 0) = true := by simp [h0]
    have q0' : (l.length == 0) = true := by simp [h0]
    have E := Lib.hid e
    clear e h0 HBG
    go_enter Try.func39, Try.ntmps39
    go_wp2_with fail
    go_ret
    exact ⟨_, rfl, by rw [E.out]; exact BkAt.nil _ _, Chg.refl _ _⟩
  · have q0 : ((l.length : Int) == 0) = false := by rw [beq_eq_false_iff_ne]; omega
    have q0' : (l.length == 0) = false := by rw [beq_eq_false_iff_ne]; omega
    have e := blocksF_P h0
    have hF2 := begF_two (l := l) (by omega)
    have hFl := begF_len l
    have hFp := begF_lt l
    obtain ⟨m, hm⟩ : ∃ m, (begF l).length = m + 1 := ⟨(begF l).length - 1, by omega⟩
    rw [hm, Nat.add_sub_cancel] at e
    have E := Lib.hid e
    have HM := Lib.hid hm
    have HFP := Lib.hid hFp
    have hm1 : 1 ≤ m ∧ m ≤ 40 := by omega
    obtain ⟨hm1, hm2⟩ := hm1
    clear e h0 hF2 hFl hFp hm
    go_enter Try.func39, Try.ntmps39
    go_wp2_with fail
    refine HBG.out.mono ?_
    rintro e wb ⟨fv, rfl, ks, k1, k2, k3, k4⟩
    have hks := begins_eq k1 k2
    subst hks
    have k3 : Own wb (fun k => w.heap.size ≤ k) 3 1 fv (begF l).length ((casts (begF l)).map (Value.int .i64)) := by rw [List.length_map] at k3; exact k3
    have k5 := k3.sl.monoIn (S' := fun k => k < wb.heap.size) fun k h _ => h
    obtain ⟨-, pf, cf, e1, hcf, hcells⟩ := k5
    have k6 := k3.sl.monoIn (S' := fun k => k < wb.heap.size) fun k h _ => h
    rw [HM.out] at hcells hcf e1
    subst e1
    obtain ⟨gf, of, rfl, hgf, -, hcell⟩ := hcells (by omega)
    have hc : ∀ j, j < m + 1 → wb.cell? ⟨gf, of + j, none⟩ = some (.int .i64 ((begF l).getD j 0 : Nat)) := fun j hj => hcell j _ (by rw [List.getElem?_map, casts_at (by rw [HM.out]; exact hj)]; rfl)
    have HCL := Lib.hid hc
    have HFS := Lib.hid k6
    have HC0 := Lib.hid k4
    clear k1 k2 k3 k4 k6 hcells hcell hc
    go_wp2_with fail
    go_loopg [4, 23] m (fun gk ov ix wr => ∃ k : Nat, k + gk = m ∧ ix = .int .i64 k ∧ BkAt wr wb.heap.size ov ((List.range k).map (bkP l)) ∧ Chg NoB w wr ∧ Chg (fun q => wb.heap.size ≤ q) wb wr)
    case atStart => exact ⟨0, by omega, rfl, BkAt.nil _ _, HC0.out, Chg.refl _ _⟩
    case round =>
      obtain ⟨k, hk, rfl, hB, hC, hCb⟩ := hrel
      rename World => wr
      have HK := Lib.hid hk
      have HB := Lib.hid hB
      have HC := Lib.hid hC
      have HCb := Lib.hid hCb
      have hkl : k ≤ m := by omega
      have hzb := hCb.size
      obtain ⟨po, co, rfl⟩ := hB.form
      rw [List.length_map, List.length_range] at HB ⊢
      clear hk hB hC hCb
      by_cases hlt : k < m
      · obtain ⟨f, hf⟩ : ∃ f, (begF l).getD k 0 = f := ⟨_, rfl⟩
        have hpos := begF_pos (l := l) (k := k) (by rw [HM.out]; omega)
        obtain ⟨q, hq⟩ : ∃ q, (begF l).getD (k + 1) 0 = q + 1 := ⟨(begF l).getD (k + 1) 0 - 1, by omega⟩
        have hfl : f ≤ l.length := by rw [← hf]; exact begF_at (by rw [HM.out]; omega)
        have hql : q + 1 ≤ l.length := by rw [← hq]; exact begF_at (by rw [HM.out]; omega)
        have a0 := HCb.out.cell (HCL.out k (by omega)) (fun e => by have e : wb.heap.size ≤ gf := e; have hgf : gf < wb.heap.size := hgf; omega)
        have a1 := HCb.out.cell (HCL.out (k + 1) (by omega)) (fun e => by have e : wb.heap.size ≤ gf := e; have hgf : gf < wb.heap.size := hgf; omega)
        rw [hf] at a0
        rw [hq, show ((q + 1 : Nat) : Int) = (q : Int) + 1 by omega] at a1
        have hbk : bkP l k = (f, q + 1, (nxN l q).map (cntN (begF l))) := by unfold bkP; rw [hf, hq]; rfl
        have HBK := Lib.hid hbk
        have l0 : (0 : Int) ≤ k := by omega
        have l1 : (k : Int) < m := by omega
        have l2 : (k : Int) + 1 < m + 1 := by omega
        have hgw : gf < wr.heap.size := Nat.lt_of_lt_of_le hgf hzb
        have A0 := (Chg.refl NoB wr).alloc (.cells #[.int .i64 f, .int .i64 ((q : Int) + 1), .slice none 0 0] 76)
        have B0 := Blk.new wr #[.int .i64 f, .int .i64 ((q : Int) + 1), .slice none 0 0] 76
        have hz4 := A0.size
        have hz4' : (wr.alloc (.cells #[.int .i64 f, .int .i64 ((q : Int) + 1), .slice none 0 0] 76)).heap.size = wr.heap.size + 1 := by simp
        have HA0 := Lib.hid A0
        have HB0 := Lib.hid B0
        have HSN := Lib.hid (HS.out.chg (HC.out.step A0) fun k hk e => e)
        clear hpos hf hq hbk A0 B0
        go_wp2_with fail
        refine (fnext_any _ _ l q _ HSN.out hl HR.out).mono ?_
        rintro e w6 ⟨v6, rfl, hI, C6⟩
        rw [nextF_nx] at hI
        obtain ⟨p6, d6, rfl, hP6⟩ := hI.place
        obtain ⟨ns, hns⟩ : ∃ ns, nxN l q = ns := ⟨_, rfl⟩
        have hn2 : ns.length ≤ 2 := by rw [← hns, nxN_len]; exact nextF_len _ _
        have HHI := Lib.hid hP6
        rw [hns] at HHI HBK ⊢
        have HB6 := Lib.hid (C6.blk0 HB0.out)
        have hz6 := C6.size
        have HC6 := Lib.hid ((HA0.out.mono (S' := fun z => wr.heap.size ≤ z) fun _ _ h => h.elim).then0 C6)
        clear hI hP6 hns C6 a0 a1
        go_wp2_with fail
        go_loopg [41] ns.length (fun gk ix wx => ∃ (k2 : Nat) (nv : Value) (Sx : Nat → Prop), k2 + gk = ns.length ∧ ix = .int .i64 k2 ∧ Blk wx wr.heap.size #[.int .i64 f, .int .i64 ((q : Int) + 1), nv] 76 ∧ Own wx Sx 3 1 nv k2 ((casts ((ns.take k2).map (cntN (begF l)))).map (Value.int .i64)) ∧ (∀ z, Sx z → w6.heap.size ≤ z) ∧ Chg (fun z => z = wr.heap.size ∨ w6.heap.size ≤ z) w6 wx)
        case atStart => exact ⟨0, _, NoB, by omega, rfl, HB6.out, Own.nil _ _ _ _, fun _ h => h.elim, Chg.refl _ _⟩
        case round =>
          obtain ⟨k2, nv, Sx, hk2, rfl, hBx, hOx, hSx, hCx⟩ := hrel
          rename World => wx
          have HK2 := Lib.hid hk2
          have HBX := Lib.hid hBx
          have HOX := Lib.hid hOx
          have HSX := Lib.hid hSx
          have HCX := Lib.hid hCx
          have hk2l : k2 ≤ ns.length := by omega
          obtain ⟨pn, cn, rfl⟩ := hOx.form
          have hzx := hCx.size
          have HCW := Lib.hid (HC6.out.trans hCx fun z hz e => by rcases e with e | e <;> (show wr.heap.size ≤ z; omega))
          clear hk2 hBx hOx hSx hCx
          by_cases hlt2 : k2 < ns.length
          · obtain ⟨n, hn⟩ : ∃ n, ns[k2]? = some n := ⟨ns[k2], by simp [hlt2]⟩
            obtain ⟨hcap, g1, o1, rfl, hgB, hg1, x0⟩ := HHI.out k2 n hn
            have x0 := HCX.out.cell x0 (fun e => by rcases e with e | e <;> (have e : _ := e; simp only at e; omega))
            have hFx := HFS.out.chg (HCb.out.trans HCW.out fun z hz e => by have e : wr.heap.size ≤ z := e; show wb.heap.size ≤ z; omega) fun z hz e => by have e : wb.heap.size ≤ z := e; have hz : z < wb.heap.size := hz; omega
            have htk : (ns.take (k2 + 1)).map (cntN (begF l)) = (ns.take k2).map (cntN (begF l)) ++ [cntN (begF l) n] := by rw [List.take_add_one, hn]; simp
            have hcl := cntN_le (begF l) n
            rw [HM.out] at hcl hFx
            have HTK := Lib.hid htk
            have HFX := Lib.hid hFx
            have k0 : (0 : Int) ≤ k2 := by omega
            have k1 : (k2 : Int) < ns.length := by omega
            obtain ⟨cnt, hcnt⟩ : ∃ c, cntN (begF l) n = c := ⟨_, rfl⟩
            have HCNT := Lib.hid hcnt
            rw [hcnt] at hcl
            clear hn htk hFx hgB hcnt
            go_wp2_with fail
            refine (bsearch_any (bs := begF l) (by rw [HM.out]; exact HFX.out) HFP.out (by rw [HM.out]; omega) (by rw [HM.out]; omega) n).mono ?_
            rintro e w7 ⟨_, rfl, ok, rfl, C7⟩
            rw [HCNT.out]
            have B7 := C7.blk0 HBX.out
            have y2 := B7.cell' (i := 2) (v := .slice pn k2 cn) (by rfl)
            have yl := B7.lt
            have O7 := HOX.out.chg0 C7
            have A7 := (Chg.refl NoB w7).alloc (.cells #[.int .i64 (cnt : Nat)] 3)
            have oA := O7.chg0 A7
            have sA : Sl (w7.alloc (.cells #[.int .i64 (cnt : Nat)] 3)) _ 1 (.slice (some ⟨w7.heap.size, 0, none⟩) 1 1) 1 [.int .i64 (cnt : Nat)] := Sl.fresh w7 [.int .i64 (cnt : Nat)] 3 1 rfl
            have one1 : ∀ u ∈ [Value.int .i64 (cnt : Nat)], u.oneCell' = true := by simp [Value.oneCell']
            have b1 : k2 + 1 ≤ maxLen := by unfold maxLen; omega
            have b2 : (k2 + 1) * 8 ≤ 140737488355328 := by omega
            have hz7 := C7.size
            have HOB := Lib.hid O7.ownBlock
            have HB7 := Lib.hid B7
            have HC7 := Lib.hid C7
            clear B7 O7 C7 x0
            go_wp2_with (at_builtin; go_must (refine wpList_app rfl _ _ 47 rfl j0 _ 8 Try.underlying47 hj0 jz0 jz1 jz2 rfl rfl oA _ 1 _ rfl sA one1 b1 b2 ?_))
            intro v8 w8 o8 g8 _
            have C8 : Chg (fun z => Value.ownBlock (.slice pn k2 cn) = some z) w7 w8 := (A7.mono (fun _ _ h => h.elim)).grown g8 (fun z hz => .inl hz)
            have B8 := C8.blk HB7.out (fun e => by have := HSX.out _ (HOB.out _ e).1; omega)
            have yf := B8.frozen 2
            have y28 := B8.cell' (i := 2) (v := .slice pn k2 cn) (by rfl)
            have yl8 := B8.lt
            have hz8 := C8.size
            obtain ⟨p8, c8, rfl⟩ := o8.form
            have HO8 := Lib.hid o8
            have HB8 := Lib.hid B8
            have HC8 := Lib.hid C8
            clear o8 g8 oA sA one1 b1 b2 A7 C8 B8 y2
            go_wp2_with fail
            have CS := (Chg.refl (· = wr.heap.size) w8).setCell (a := ⟨wr.heap.size, 2, none⟩) (.inl rfl) (.slice p8 (k2 + 1) c8)
            go_roundg (ns.length - (k2 + 1))
            case measure => have := HK2.out; omega
            case rel =>
              refine ⟨k2 + 1, _, fun z => Value.ownBlock (.slice pn k2 cn) = some z ∨ w7.heap.size ≤ z, by have := HK2.out; omega, by go_num, HB8.out.set 2 _, ?_, fun z hz => ?_, ?_⟩
              · rw [HTK.out, HCNT.out, casts_snoc, List.map_append, List.map_take, List.map_cons, List.map_nil]
                refine (HO8.out.mono (S' := fun z => Value.ownBlock (.slice pn k2 cn) = some z ∨ w7.heap.size ≤ z) fun z h => h.elim .inl (fun h => .inr (by first | (rw [h]; simp) | omega))).chg CS fun z hz e => ?_
                have e : z = wr.heap.size := e
                rcases hz with h | h
                · have := HSX.out _ (HOB.out _ h).1; omega
                · omega
              · rcases hz with h | h
                · exact HSX.out _ (HOB.out _ h).1
                · omega
              · refine ((HCX.out.then0 HC7.out).trans HC8.out fun z hz e => .inr (HSX.out _ (HOB.out _ e).1)).trans CS fun z hz e => .inl e
          · obtain rfl : k2 = ns.length := by omega
            obtain ⟨S1, S2, vs, d1, d2, hO, hRr⟩ := HB.out
            have y0 := HBX.out.cell' (i := 0) (v := .int .i64 f) (by rfl)
            have y1 := HBX.out.cell' (i := 1) (v := .int .i64 ((q : Int) + 1)) (by rfl)
            have y2 := HBX.out.cell' (i := 2) (v := .slice pn ns.length cn) (by rfl)
            have yl := HBX.out.lt
            have O9 := hO.chg HCW.out fun z hz e => by have := (d1 z hz).1.2; have e : wr.heap.size ≤ z := e; omega
            rw [List.length_map, List.length_range] at O9
            have A9 := (Chg.refl NoB wx).alloc (.cells #[.int .i64 f, .int .i64 ((q : Int) + 1), .slice pn ns.length cn] 76)
            have oA := O9.chg0 A9
            have sA : Sl (wx.alloc (.cells #[.int .i64 f, .int .i64 ((q : Int) + 1), .slice pn ns.length cn] 76)) _ 3 (.slice (some ⟨wx.heap.size, 0, none⟩) 1 1) 1 [.int .i64 f, .int .i64 ((q : Int) + 1), .slice pn ns.length cn] := Sl.fresh wx [.int .i64 f, .int .i64 ((q : Int) + 1), .slice pn ns.length cn] 76 1 rfl
            have one1 : ∀ u ∈ [Value.int .i64 f, .int .i64 ((q : Int) + 1), .slice pn ns.length cn], u.oneCell' = true := by simp [Value.oneCell']
            have b1 : k + 1 ≤ maxLen := by unfold maxLen; omega
            have b2 : (k + 1) * 40 ≤ 140737488355328 := by omega
            have HOB := Lib.hid O9.ownBlock
            have HD1 := Lib.hid d1
            have HD2 := Lib.hid d2
            have HRR := Lib.hid hRr
            clear d1 d2 hO hRr O9
            go_wp2_with (at_builtin; go_must (refine wpList_app rfl _ _ 50 rfl i0 _ 40 Try.underlying50 hi0 hz0 hz1 hz2 rfl rfl oA _ 1 _ rfl sA one1 b1 b2 ?_))
            intro v10 w10 o10 g10 _
            have C10 : Chg (fun z => Value.ownBlock (.slice po k co) = some z) wx w10 := (A9.mono (fun _ _ h => h.elim)).grown g10 (fun z hz => .inl hz)
            have HO10 := Lib.hid o10
            have HC10 := Lib.hid C10
            have hza : (wx.alloc (.cells #[.int .i64 f, .int .i64 ((q : Int) + 1), .slice pn ns.length cn] 76)).heap.size = wx.heap.size + 1 := by simp
            clear o10 g10 oA sA one1 b1 b2 A9 C10 y0 y1 y2
            go_wp2_with fail
            go_roundg (m - (k + 1))
            case measure => have := HK.out; omega
            case rel =>
              have hbs : (List.range (k + 1)).map (bkP l) = (List.range k).map (bkP l) ++ [(f, q + 1, ns.map (cntN (begF l)))] := by rw [List.range_succ, List.map_append, List.map_cons, List.map_nil, HBK.out]
              have hcw := HCW.out.size
              refine ⟨k + 1, by have := HK.out; omega, by go_num, ?_, ?_, ?_⟩
              · rw [hbs]
                refine BkAt.rebuild (z := wx.heap.size + 1) HD1.out HD2.out HRR.out HCW.out (fun _ h => h) (nv := .slice pn ns.length cn) (Sx := Sx) ?_ (fun z hz => by have := HSX.out z hz; omega) hzb ?_ (fun z hz => (HOB.out z hz).1) (by omega) (fun _ => trivial) HC10.out
                · have := HOX.out.sl
                  rw [List.take_length] at this
                  simpa using this
                · have h := HO10.out
                  simpa [kcell] using h
              · exact (HC.out.trans HCW.out fun z hz e => by have e : wr.heap.size ≤ z := e; have := HC.out.size; omega).trans HC10.out fun z hz e => by have := (HD1.out z (HOB.out z e).1).1.1; have := HC0.out.size; omega
              · exact (HCb.out.trans HCW.out fun z hz e => by have e : wr.heap.size ≤ z := e; show wb.heap.size ≤ z; omega).trans HC10.out fun z hz e => by have := (HD1.out z (HOB.out z e).1).1.1; exact this
      · obtain rfl : k = m := by omega
        go_wp2_with fail
        go_ret
        have hzw := HC0.out.size
        exact ⟨_, rfl, by rw [E.out]; exact HB.out.low hzw, HC.out⟩
end Go.Proofs.Ytdkplhdinklflaa
