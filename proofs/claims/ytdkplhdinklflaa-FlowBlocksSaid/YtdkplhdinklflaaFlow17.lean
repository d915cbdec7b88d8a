/- The blocks of a program, by the reference. No condition. -/
import Derived.Test.YtdkplhdinklflaaFlow16
set_option linter.unusedVariables false
namespace Go.Proofs.Ytdkplhdinklflaa
open Go.RowKit Go.RR

theorem posL_step {bs : List Nat} {n j : Nat} : (List.range (j + 1)).filter (fun i => decide (bs.getD i 0 = n)) = (List.range j).filter (fun i => decide (bs.getD i 0 = n)) ++ (if bs.getD j 0 = n then [j] else []) := by
  rw [List.range_succ, List.filter_append]
  congr 1
  by_cases h : bs.getD j 0 = n
  · rw [if_pos h]; simp only [List.filter_cons, List.filter_nil, decide_eq_true h, if_true]
  · rw [if_neg h]; simp only [List.filter_cons, List.filter_nil, decide_eq_false h]; rfl
theorem filt_snoc (f : Nat → Bool) (p : Nat) : (List.range (p + 1)).filter f = (List.range p).filter f ++ (if f p = true then [p] else []) := by
  rw [List.range_succ, List.filter_append]
  congr 1
  cases h : f p
  · simp [h]
  · simp [h]
theorem filt_len (f : Nat → Bool) (p : Nat) : ((List.range p).filter f).length ≤ p := by
  have := List.length_filter_le f (List.range p)
  simpa using this

set_option maxHeartbeats 8000000 in
set_option maxRecDepth 100000 in
theorem rblocks_any (S : Nat → Prop) (v : Value) (l : List In) (w : World) (hs : Sl w S 5 v l.length (icells l)) (hl : l.length ≤ 40) (hr : ∀ i ∈ l, rightB i = true) :
    Calls Try.prog 40 #[v] w (RetSl fun y w' => BkAt w' w.heap.size y (blocksF l) ∧ Chg NoB w w') := by
  obtain ⟨i0, hi0, hz0, hz1, hz2⟩ := info_parts BTinfo
  obtain ⟨j0, hj0, jz0, jz1, jz2⟩ := info_parts INTinfo
  obtain ⟨pv, cv, rfl⟩ := hs.form
  have hs' := hs.monoIn (S' := fun k => k < w.heap.size) fun k h _ => h
  have HS := Lib.hid hs'
  have HR := Lib.hid hr
  clear hs hs' hr
  go_enter Try.func40, Try.ntmps40
  go_wp2_with fail
  go_loopg [4, 5] (l.length + 1) (fun gk av pv' wr => ∃ (p : Nat) (Sa : Nat → Prop), p + gk = l.length + 1 ∧ pv' = .int .i64 p ∧ Own wr Sa 3 1 av ((List.range p).filter (firstB l)).length ((casts ((List.range p).filter (firstB l))).map (Value.int .i64)) ∧ (∀ z, Sa z → w.heap.size ≤ z) ∧ Chg NoB w wr)
  case atStart => exact ⟨0, NoB, by omega, rfl, Own.nil _ _ _ _, fun _ h => h.elim, Chg.refl _ _⟩
  case round =>
    obtain ⟨p, Sa, hp, rfl, hO, hSa, hC⟩ := hrel
    rename World => wr
    have HP := Lib.hid hp
    have HO := Lib.hid hO
    have HSA := Lib.hid hSa
    have HC := Lib.hid hC
    obtain ⟨pa, ca, rfl⟩ := hO.form
    have hpl : p ≤ l.length + 1 := by omega
    have hfl := filt_len (firstB l) p
    obtain ⟨c, hc⟩ : ∃ c, (List.range p).filter (firstB l) = c := ⟨_, rfl⟩
    rw [hc] at HO hfl ⊢
    have HCC := Lib.hid hc
    clear hp hO hSa hC hc
    by_cases hlt : p ≤ l.length
    · have t0 : decide ((p : Int) ≤ l.length) = true := by simp; omega
      have t0' : decide (p ≤ l.length) = true := by simp; omega
      go_wp2_with fail
      refine (rfirst_any _ _ l p _ (HS.out.chg0 HC.out) hl HR.out (by omega)).mono ?_
      rintro e w1 ⟨rfl, C1⟩
      have hst := filt_snoc (firstB l) p
      rw [HCC.out] at hst
      have O1 := HO.out.chg0 C1
      have HC1 := Lib.hid (HC.out.step C1)
      clear C1
      cases hfb : firstB l p
      · rw [hfb, if_neg (by simp), List.append_nil] at hst
        have HST := Lib.hid hst
        have HO1 := Lib.hid O1
        clear hst hfb O1
        go_wp2_with fail
        go_roundg (l.length + 1 - (p + 1))
        case measure => have := HP.out; omega
        case rel => exact ⟨p + 1, Sa, by have := HP.out; omega, by go_num, by rw [HST.out]; exact HO1.out, HSA.out, HC1.out⟩
      · rw [hfb, if_pos rfl] at hst
        have HST := Lib.hid hst
        have A1 := (Chg.refl NoB w1).alloc (.cells #[.int .i64 (p : Nat)] 3)
        have oA := O1.chg0 A1
        have sA : Sl (w1.alloc (.cells #[.int .i64 (p : Nat)] 3)) _ 1 (.slice (some ⟨w1.heap.size, 0, none⟩) 1 1) 1 [.int .i64 (p : Nat)] := Sl.fresh w1 [.int .i64 (p : Nat)] 3 1 rfl
        have one1 : ∀ u ∈ [Value.int .i64 (p : Nat)], u.oneCell' = true := by simp [Value.oneCell']
        have b1 : c.length + 1 ≤ maxLen := by unfold maxLen; omega
        have b2 : (c.length + 1) * 8 ≤ 140737488355328 := by omega
        have HOB := Lib.hid O1.ownBlock
        have hz1' := HC1.out.size
        clear hst hfb O1
        go_wp2_with (at_builtin; go_must (refine wpList_app rfl _ _ 47 rfl j0 _ 8 Try.underlying47 hj0 jz0 jz1 jz2 rfl rfl oA _ 1 _ rfl sA one1 b1 b2 ?_))
        intro v8 w8 o8 g8 _
        have C8 : Chg (fun z => Value.ownBlock (.slice pa c.length ca) = some z) w1 w8 := (A1.mono (fun _ _ h => h.elim)).grown g8 (fun z hz => .inl hz)
        have HO8 := Lib.hid o8
        have HC8 := Lib.hid C8
        clear o8 g8 oA sA one1 b1 b2 A1 C8
        go_wp2_with fail
        go_roundg (l.length + 1 - (p + 1))
        case measure => have := HP.out; omega
        case rel =>
          refine ⟨p + 1, fun z => Value.ownBlock (.slice pa c.length ca) = some z ∨ w1.heap.size ≤ z, by have := HP.out; omega, by go_num, ?_, fun z hz => ?_, HC1.out.trans HC8.out fun z hz e => by have := HSA.out _ (HOB.out _ e).1; omega⟩
          · rw [HST.out, casts_snoc, List.map_append, List.length_append]
            exact HO8.out.mono fun z h => h.elim .inl (fun h => .inr (by first | (rw [h]; simp) | omega))
          · rcases hz with h | h
            · exact HSA.out _ (HOB.out _ h).1
            · omega
    · obtain rfl : p = l.length + 1 := by omega
      have hcb : c = begF l := by rw [← HCC.out]; rfl
      subst hcb
      have t0 : decide ((l.length : Int) + 1 ≤ l.length) = false := by simp; omega
      have t0' : decide (l.length + 1 ≤ l.length) = false := by simp
      clear hlt
      by_cases h0 : l.length = 0
      · have e : blocksF l = [] := by unfold blocksF; rw [if_pos h0]
        have q0 : ((l.length : Int) == 0) = true := by simp [h0]
        have q0' : (l.length == 0) = true := by simp [h0]
        have E := Lib.hid e
        clear e h0
        go_wp2_with fail
        go_ret
        exact ⟨_, rfl, by rw [E.out]; exact BkAt.nil _ _, HC.out⟩
      · have q0 : ((l.length : Int) == 0) = false := by rw [beq_eq_false_iff_ne]; omega
        have q0' : (l.length == 0) = false := by rw [beq_eq_false_iff_ne]; omega
        have e : blocksF l = (List.range ((begF l).length - 1)).map (bkR l) := by unfold blocksF; rw [if_neg h0]
        have hF2 := begF_two (l := l) (by omega)
        have hFl := begF_len l
        obtain ⟨m, hm⟩ : ∃ m, (begF l).length = m + 1 := ⟨(begF l).length - 1, by omega⟩
        rw [hm, Nat.add_sub_cancel] at e
        have E := Lib.hid e
        have HM := Lib.hid hm
        have hm1 : 1 ≤ m ∧ m ≤ 40 := by omega
        obtain ⟨hm1, hm2⟩ := hm1
        have k6 := HO.out.sl.monoIn (S' := fun k => k < wr.heap.size) fun k h _ => h
        have k5 := k6
        obtain ⟨-, pf, cf, e1, hcf, hcells⟩ := k5
        cases e1
        rw [hm] at hcells hcf ⊢
        obtain ⟨gf, of, rfl, hgf, -, hcell⟩ := hcells (by omega)
        have hcl : ∀ j, j < m + 1 → wr.cell? ⟨gf, of + j, none⟩ = some (.int .i64 ((begF l).getD j 0 : Nat)) := fun j hj => hcell j _ (by rw [List.getElem?_map, casts_at (by rw [hm]; exact hj)]; rfl)
        have HCL := Lib.hid hcl
        have HFS := Lib.hid k6
        have HC0 := Lib.hid HC.out
        clear e h0 hF2 hFl hm k6 hcells hcell hcl
        go_wp2_with fail
        go_loopg [3, 6] m (fun gk ov kv ws => ∃ k : Nat, k + gk = m ∧ kv = .int .i64 k ∧ BkAt ws wr.heap.size ov ((List.range k).map (bkR l)) ∧ Chg NoB w ws ∧ Chg (fun q => wr.heap.size ≤ q) wr ws)
        case atStart => exact ⟨0, by omega, rfl, BkAt.nil _ _, HC0.out, Chg.refl _ _⟩
        case round =>
          obtain ⟨k, hk, rfl, hB, hC, hCb⟩ := hrel
          rename World => ws
          have HK := Lib.hid hk
          have HB := Lib.hid hB
          have HC := Lib.hid hC
          have HCb := Lib.hid hCb
          have hkl : k ≤ m := by omega
          have hzb := hCb.size
          obtain ⟨po, co, rfl⟩ := hB.form
          rw [List.length_map, List.length_range] at HB ⊢
          clear hk hB hC hCb
          by_cases hlt : k < m
          · have t3 : decide ((k : Int) < m) = true := by simp; omega
            have t3' : decide (k < m) = true := by simp; omega
            obtain ⟨f, hf⟩ : ∃ f, (begF l).getD k 0 = f := ⟨_, rfl⟩
            have hpos := begF_pos (l := l) (k := k) (by rw [HM.out]; omega)
            obtain ⟨q, hq⟩ : ∃ q, (begF l).getD (k + 1) 0 = q + 1 := ⟨(begF l).getD (k + 1) 0 - 1, by omega⟩
            have hfl' : f ≤ l.length := by rw [← hf]; exact begF_at (by rw [HM.out]; omega)
            have hql : q + 1 ≤ l.length := by rw [← hq]; exact begF_at (by rw [HM.out]; omega)
            have a0 := HCb.out.cell (HCL.out k (by omega)) (fun e => by have e : wr.heap.size ≤ gf := e; have hgf : gf < wr.heap.size := hgf; omega)
            have a1 := HCb.out.cell (HCL.out (k + 1) (by omega)) (fun e => by have e : wr.heap.size ≤ gf := e; have hgf : gf < wr.heap.size := hgf; omega)
            rw [hf] at a0
            rw [hq, show ((q + 1 : Nat) : Int) = (q : Int) + 1 by omega] at a1
            have hbk : bkR l k = (f, q + 1, (nxN l q).flatMap (posL (begF l))) := by unfold bkR; rw [hf, hq]; rfl
            have HBK := Lib.hid hbk
            have l0 : (0 : Int) ≤ k := by omega
            have l1 : (k : Int) < m := by omega
            have l2 : (k : Int) + 1 < m + 1 := by omega
            have l3 : (k : Int) < m + 1 := by omega
            have hgw : gf < ws.heap.size := Nat.lt_of_lt_of_le hgf hzb
            have s1 : IntKind.i64.wrap ((k : Int) + 1) = k + 1 := IntWalk.i64_in _ (by omega)
            have s2 : (0 : Int) ≤ (k : Int) + 1 := by omega
            have s3 : ((k : Int) + 1).toNat = k + 1 := by omega
            have n0 := World.new_ne ws ⟨gf, of + k, none⟩ a0
            have n1 := World.new_ne ws ⟨gf, of + (k + 1), none⟩ a1
            clear hpos hf hq hbk
            go_wp2_with fail
            go_region_held3 (fun w' => w'.cell? ⟨gf, of + k, none⟩ = some (.int .i64 f) ∧ w'.cell? ⟨gf, of + (k + 1), none⟩ = some (.int .i64 ((q : Int) + 1))) (go_keep) (fail)
            clear s1 s2 s3 n0 n1 a0 a1
            have A0 := ((Chg.refl NoB ws).alloc (.cells #[.int .i64 f, .int .i64 ((q : Int) + 1), .slice none 0 0] 76)).drew
            have B0 := (Blk.new ws #[.int .i64 f, .int .i64 ((q : Int) + 1), .slice none 0 0] 76).drew
            have hz4' : (ws.alloc (.cells #[.int .i64 f, .int .i64 ((q : Int) + 1), .slice none 0 0] 76)).drew.heap.size = ws.heap.size + 1 := by simp
            generalize hw4 : (ws.alloc (.cells #[.int .i64 f, .int .i64 ((q : Int) + 1), .slice none 0 0] 76)).drew = w4 at *
            have HA0 := Lib.hid A0
            have HB0 := Lib.hid B0
            have HSN := Lib.hid (HS.out.chg (HC.out.step A0) fun k hk e => e)
            have y1 := B0.cell' (i := 1) (v := .int .i64 ((q : Int) + 1)) (by rfl)
            have yl := B0.lt
            clear hw4 A0 B0
            go_wp2_with fail
            refine (rnext_any _ _ l q _ HSN.out hl HR.out (by omega)).mono ?_
            rintro e w6 ⟨v6, rfl, hI, C6⟩
            rw [nextF_nx] at hI
            obtain ⟨p6, d6, rfl, hP6⟩ := hI.place
            obtain ⟨ns, hns⟩ : ∃ ns, nxN l q = ns := ⟨_, rfl⟩
            have hn2 : ns.length ≤ 2 := by rw [← hns, nxN_len]; exact nextF_len _ _
            have HHI := Lib.hid hP6
            rw [hns] at HHI HBK ⊢
            have HB6 := Lib.hid (C6.blk0 HB0.out)
            have hz6 := C6.size
            have HC6 := Lib.hid ((HA0.out.mono (S' := fun z => ws.heap.size ≤ z) fun _ _ h => h.elim).then0 C6)
            clear hI hP6 hns C6 y1 yl
            go_wp2_with fail
            go_loopg [51] ns.length (fun gk ix wx => ∃ (k2 : Nat) (nv : Value) (Sx : Nat → Prop), k2 + gk = ns.length ∧ ix = .int .i64 k2 ∧ Blk wx ws.heap.size #[.int .i64 f, .int .i64 ((q : Int) + 1), nv] 76 ∧ Own wx Sx 3 1 nv ((ns.take k2).flatMap (posL (begF l))).length ((casts ((ns.take k2).flatMap (posL (begF l)))).map (Value.int .i64)) ∧ (∀ z, Sx z → w6.heap.size ≤ z) ∧ Chg (fun z => z = ws.heap.size ∨ w6.heap.size ≤ z) w6 wx)
            case atStart => exact ⟨0, _, NoB, by omega, rfl, HB6.out, Own.nil _ _ _ _, fun _ h => h.elim, Chg.refl _ _⟩
            case round =>
              obtain ⟨k2, nv, Sx, hk2, rfl, hBx, hOx, hSx, hCx⟩ := hrel
              rename World => wx
              have HK2 := Lib.hid hk2
              have HBX := Lib.hid hBx
              have HOX := Lib.hid hOx
              have HSX := Lib.hid hSx
              have HCX := Lib.hid hCx
              have hk2l : k2 ≤ ns.length := by omega
              have hzx := hCx.size
              clear hk2 hBx hOx hSx hCx
              by_cases hlt2 : k2 < ns.length
              · obtain ⟨n, hn⟩ : ∃ n, ns[k2]? = some n := ⟨ns[k2], by simp [hlt2]⟩
                obtain ⟨hcap, g1, o1, rfl, hgB, hg1, x0⟩ := HHI.out k2 n hn
                have x0 := HCX.out.cell x0 (fun e => by rcases e with e | e <;> (have e : _ := e; simp only at e; omega))
                have htk : (ns.take (k2 + 1)).flatMap (posL (begF l)) = (ns.take k2).flatMap (posL (begF l)) ++ posL (begF l) n := by rw [List.take_add_one, hn, List.flatMap_append]; simp
                have HTK := Lib.hid htk
                have k0 : (0 : Int) ≤ k2 := by omega
                have k1 : (k2 : Int) < ns.length := by omega
                obtain ⟨base, hbase⟩ : ∃ c, (ns.take k2).flatMap (posL (begF l)) = c := ⟨_, rfl⟩
                have hbl : base.length ≤ 200 := by
                  rw [← hbase]
                  have : ∀ xs : List Nat, (xs.flatMap (posL (begF l))).length ≤ xs.length * 41 := by
                    intro xs
                    induction xs with
                    | nil => simp
                    | cons x xs ih =>
                      rw [List.flatMap_cons, List.length_append, List.length_cons]
                      have h1 : (posL (begF l) x).length ≤ (begF l).length := filt_len _ _
                      have := HM.out
                      omega
                  have h2 := this (ns.take k2)
                  have h3 : (ns.take k2).length ≤ 2 := by rw [List.length_take]; omega
                  omega
                rw [hbase] at HOX HTK
                clear hn htk hgB hbase
                go_wp2_with fail
                go_loopg [57] (m + 1) (fun gk ix wy => ∃ (j : Nat) (nv : Value) (Sy : Nat → Prop), j + gk = m + 1 ∧ ix = .int .i64 j ∧ Blk wy ws.heap.size #[.int .i64 f, .int .i64 ((q : Int) + 1), nv] 76 ∧ Own wy Sy 3 1 nv (base ++ (List.range j).filter (fun i => decide ((begF l).getD i 0 = n))).length ((casts (base ++ (List.range j).filter (fun i => decide ((begF l).getD i 0 = n)))).map (Value.int .i64)) ∧ (∀ z, Sy z → w6.heap.size ≤ z) ∧ Chg (fun z => z = ws.heap.size ∨ w6.heap.size ≤ z) w6 wy)
                case atStart => exact ⟨0, _, Sx, by omega, rfl, HBX.out, by simpa using HOX.out, HSX.out, HCX.out⟩
                case round =>
                  obtain ⟨j, nv, Sy, hj, rfl, hBy, hOy, hSy, hCy⟩ := hrel
                  rename World => wy
                  have HJ := Lib.hid hj
                  have HBY := Lib.hid hBy
                  have HSY := Lib.hid hSy
                  have HCY := Lib.hid hCy
                  have hjl : j ≤ m + 1 := by omega
                  have hzy := hCy.size
                  obtain ⟨cur, hcur⟩ : ∃ c, base ++ (List.range j).filter (fun i => decide ((begF l).getD i 0 = n)) = c := ⟨_, rfl⟩
                  have hcurl : cur.length ≤ 300 := by
                    rw [← hcur, List.length_append]
                    have := filt_len (fun i => decide ((begF l).getD i 0 = n)) j
                    omega
                  rw [hcur] at hOy
                  have hstep : base ++ (List.range (j + 1)).filter (fun i => decide ((begF l).getD i 0 = n)) = cur ++ (if (begF l).getD j 0 = n then [j] else []) := by rw [posL_step, ← List.append_assoc, hcur]
                  have HCUR := Lib.hid hcur
                  have HSTEP := Lib.hid hstep
                  have HOY := Lib.hid hOy
                  obtain ⟨pn, cn, rfl⟩ := hOy.form
                  have HCW := Lib.hid (HC6.out.trans hCy fun z hz e => by rcases e with e | e <;> (show ws.heap.size ≤ z; omega))
                  clear hj hBy hOy hSy hCy hcur hstep
                  by_cases hltj : j < m + 1
                  · have aj := (HCb.out.trans HCW.out fun z hz e => by have e : ws.heap.size ≤ z := e; show wr.heap.size ≤ z; omega).cell (HCL.out j hltj) (fun e => by have e : wr.heap.size ≤ gf := e; have hgf : gf < wr.heap.size := hgf; omega)
                    obtain ⟨x, hx⟩ : ∃ x, (begF l).getD j 0 = x := ⟨_, rfl⟩
                    rw [hx] at aj
                    rw [hx] at HSTEP
                    have hgy : gf < wy.heap.size := by have := HCW.out.size; omega
                    have jj0 : (0 : Int) ≤ j := by omega
                    have jj1 : (j : Int) < m + 1 := by omega
                    clear hx
                    by_cases hxn : x = n
                    · have q3 : ((x : Int) == n) = true := by rw [beq_iff_eq]; omega
                      have q3' : (x == n) = true := by rw [beq_iff_eq]; exact hxn
                      have hst := HSTEP.out
                      rw [if_pos hxn] at hst
                      have HST := Lib.hid hst
                      have y2 := HBY.out.cell' (i := 2) (v := .slice pn cur.length cn) (by rfl)
                      have yl := HBY.out.lt
                      have O7 := HOY.out
                      have A7 := (Chg.refl NoB wy).alloc (.cells #[.int .i64 (j : Nat)] 3)
                      have oA := O7.chg0 A7
                      have sA : Sl (wy.alloc (.cells #[.int .i64 (j : Nat)] 3)) _ 1 (.slice (some ⟨wy.heap.size, 0, none⟩) 1 1) 1 [.int .i64 (j : Nat)] := Sl.fresh wy [.int .i64 (j : Nat)] 3 1 rfl
                      have one1 : ∀ u ∈ [Value.int .i64 (j : Nat)], u.oneCell' = true := by simp [Value.oneCell']
                      have b1 : cur.length + 1 ≤ maxLen := by unfold maxLen; omega
                      have b2 : (cur.length + 1) * 8 ≤ 140737488355328 := by omega
                      have HOB := Lib.hid O7.ownBlock
                      clear O7 hxn hst
                      go_wp2_with (at_builtin; go_must (refine wpList_app rfl _ _ 47 rfl j0 _ 8 Try.underlying47 hj0 jz0 jz1 jz2 rfl rfl oA _ 1 _ rfl sA one1 b1 b2 ?_))
                      intro v8 w8 o8 g8 _
                      have C8 : Chg (fun z => Value.ownBlock (.slice pn cur.length cn) = some z) wy w8 := (A7.mono (fun _ _ h => h.elim)).grown g8 (fun z hz => .inl hz)
                      have B8 := C8.blk HBY.out (fun e => by have := HSY.out _ (HOB.out _ e).1; omega)
                      have yf := B8.frozen 2
                      have y28 := B8.cell' (i := 2) (v := .slice pn cur.length cn) (by rfl)
                      have yl8 := B8.lt
                      obtain ⟨p8, c8, rfl⟩ := o8.form
                      have HO8 := Lib.hid o8
                      have HB8 := Lib.hid B8
                      have HC8 := Lib.hid C8
                      clear o8 g8 oA sA one1 b1 b2 A7 C8 B8 y2
                      go_wp2_with fail
                      have CS := (Chg.refl (· = ws.heap.size) w8).setCell (a := ⟨ws.heap.size, 2, none⟩) (.inl rfl) (.slice p8 (cur.length + 1) c8)
                      go_roundg (m + 1 - (j + 1))
                      case measure => have := HJ.out; omega
                      case rel =>
                        refine ⟨j + 1, _, fun z => Value.ownBlock (.slice pn cur.length cn) = some z ∨ wy.heap.size ≤ z, by have := HJ.out; omega, by go_num, HB8.out.set 2 _, ?_, fun z hz => ?_, ?_⟩
                        · rw [HST.out, casts_snoc, List.map_append, List.length_append, List.map_cons, List.map_nil]
                          refine (HO8.out.mono (S' := fun z => Value.ownBlock (.slice pn cur.length cn) = some z ∨ wy.heap.size ≤ z) fun z h => h.elim .inl (fun h => .inr (by first | (rw [h]; simp) | omega))).chg CS fun z hz e => ?_
                          have e : z = ws.heap.size := e
                          rcases hz with h | h
                          · have := HSY.out _ (HOB.out _ h).1; omega
                          · omega
                        · rcases hz with h | h
                          · exact HSY.out _ (HOB.out _ h).1
                          · omega
                        · exact (HCY.out.trans HC8.out fun z hz e => .inr (HSY.out _ (HOB.out _ e).1)).trans CS fun z hz e => .inl e
                    · have q3 : ((x : Int) == n) = false := by rw [beq_eq_false_iff_ne]; omega
                      have q3' : (x == n) = false := by rw [beq_eq_false_iff_ne]; exact hxn
                      have hst := HSTEP.out
                      rw [if_neg hxn, List.append_nil] at hst
                      have HST := Lib.hid hst
                      clear hxn hst
                      go_wp2_with fail
                      go_roundg (m + 1 - (j + 1))
                      case measure => have := HJ.out; omega
                      case rel => exact ⟨j + 1, _, Sy, by have := HJ.out; omega, by go_num, HBY.out, by rw [HST.out]; exact HOY.out, HSY.out, HCY.out⟩
                  · obtain rfl : j = m + 1 := by omega
                    have hfin : base ++ posL (begF l) n = cur := by rw [← HCUR.out]; unfold posL; rw [HM.out]
                    have HFIN := Lib.hid hfin
                    clear hfin
                    go_wp2_with fail
                    go_roundg (ns.length - (k2 + 1))
                    case measure => have := HK2.out; omega
                    case rel => exact ⟨k2 + 1, _, Sy, by have := HK2.out; omega, by go_num, HBY.out, by rw [HTK.out, HFIN.out]; exact HOY.out, HSY.out, HCY.out⟩
              · obtain rfl : k2 = ns.length := by omega
                rw [List.take_length] at HOX
                obtain ⟨ls, hls⟩ : ∃ c, ns.flatMap (posL (begF l)) = c := ⟨_, rfl⟩
                rw [hls] at HOX HBK
                obtain ⟨pn, cn, rfl⟩ := HOX.out.form
                have HCW := Lib.hid (HC6.out.trans HCX.out fun z hz e => by rcases e with e | e <;> (show ws.heap.size ≤ z; omega))
                obtain ⟨S1, S2, vs, d1, d2, hO, hRr⟩ := HB.out
                have y0 := HBX.out.cell' (i := 0) (v := .int .i64 f) (by rfl)
                have y1 := HBX.out.cell' (i := 1) (v := .int .i64 ((q : Int) + 1)) (by rfl)
                have y2 := HBX.out.cell' (i := 2) (v := .slice pn ls.length cn) (by rfl)
                have yl := HBX.out.lt
                have O9 := hO.chg HCW.out fun z hz e => by have := (d1 z hz).1.2; have e : ws.heap.size ≤ z := e; omega
                rw [List.length_map, List.length_range] at O9
                have A9 := (Chg.refl NoB wx).alloc (.cells #[.int .i64 f, .int .i64 ((q : Int) + 1), .slice pn ls.length cn] 76)
                have oA := O9.chg0 A9
                have sA : Sl (wx.alloc (.cells #[.int .i64 f, .int .i64 ((q : Int) + 1), .slice pn ls.length cn] 76)) _ 3 (.slice (some ⟨wx.heap.size, 0, none⟩) 1 1) 1 [.int .i64 f, .int .i64 ((q : Int) + 1), .slice pn ls.length cn] := Sl.fresh wx [.int .i64 f, .int .i64 ((q : Int) + 1), .slice pn ls.length cn] 76 1 rfl
                have one1 : ∀ u ∈ [Value.int .i64 f, .int .i64 ((q : Int) + 1), .slice pn ls.length cn], u.oneCell' = true := by simp [Value.oneCell']
                have b1 : k + 1 ≤ maxLen := by unfold maxLen; omega
                have b2 : (k + 1) * 40 ≤ 140737488355328 := by omega
                have HOB := Lib.hid O9.ownBlock
                have HD1 := Lib.hid d1
                have HD2 := Lib.hid d2
                have HRR := Lib.hid hRr
                clear d1 d2 hO hRr O9 hls
                go_wp2_with (at_builtin; go_must (refine wpList_app rfl _ _ 50 rfl i0 _ 40 Try.underlying50 hi0 hz0 hz1 hz2 rfl rfl oA _ 1 _ rfl sA one1 b1 b2 ?_))
                intro v10 w10 o10 g10 _
                have C10 : Chg (fun z => Value.ownBlock (.slice po k co) = some z) wx w10 := (A9.mono (fun _ _ h => h.elim)).grown g10 (fun z hz => .inl hz)
                have HO10 := Lib.hid o10
                have HC10 := Lib.hid C10
                clear o10 g10 oA sA one1 b1 b2 A9 C10 y0 y1 y2
                go_wp2_with fail
                go_roundg (m - (k + 1))
                case measure => have := HK.out; omega
                case rel =>
                  have hbs : (List.range (k + 1)).map (bkR l) = (List.range k).map (bkR l) ++ [(f, q + 1, ls)] := by rw [List.range_succ, List.map_append, List.map_cons, List.map_nil, HBK.out]
                  have hcw := HCW.out.size
                  refine ⟨k + 1, by have := HK.out; omega, by go_num, ?_, ?_, ?_⟩
                  · rw [hbs]
                    refine BkAt.rebuild (z := wx.heap.size + 1) HD1.out HD2.out HRR.out HCW.out (fun _ h => h) (nv := .slice pn ls.length cn) (Sx := Sx) HOX.out.sl (fun z hz => by have := HSX.out z hz; omega) hzb ?_ (fun z hz => (HOB.out z hz).1) (by omega) (fun _ => trivial) HC10.out
                    have h := HO10.out
                    simpa [kcell] using h
                  · exact (HC.out.trans HCW.out fun z hz e => by have e : ws.heap.size ≤ z := e; have := HC.out.size; omega).trans HC10.out fun z hz e => by have := (HD1.out z (HOB.out z e).1).1.1; have := HC0.out.size; omega
                  · exact (HCb.out.trans HCW.out fun z hz e => by have e : ws.heap.size ≤ z := e; show wr.heap.size ≤ z; omega).trans HC10.out fun z hz e => by have := (HD1.out z (HOB.out z e).1).1.1; exact this
          · obtain rfl : k = m := by omega
            have t3 : decide ((k : Int) < k) = false := by simp
            have t3' : decide (k < k) = false := by simp
            go_wp2_with fail
            go_ret
            have hzw := HC0.out.size
            exact ⟨_, rfl, by rw [E.out]; exact HB.out.low hzw, HC.out⟩
end Go.Proofs.Ytdkplhdinklflaa
