/- SendKeeps returns true, whatever it is given. -/
import Derived.Test.YtokigldggkkbcaaSendPlain
import Derived.Test.YtokigldggkkbcaaSendFirst
import Derived.Deep.CutBlock
set_option linter.unusedVariables false
namespace Go.Proofs.Ytokigldggkkbcaa
open Go.RowKit Go.RR

/-- An act on a sender, as it stands in memory. -/
structure OpV where
  kind : Int
  i : Int
  ack : Int
  v : Value
  b : ByteArray
def ocells (l : List OpV) : List Value := l.flatMap fun o => [.int .i64 o.kind, .int .i64 o.i, .int .u64 o.ack, o.v]
theorem ocells_at : ∀ (l : List OpV) (i : Nat) (o : OpV), l[i]? = some o → (ocells l)[i * 4]? = some (.int .i64 o.kind) ∧ (ocells l)[i * 4 + 1]? = some (.int .i64 o.i) ∧ (ocells l)[i * 4 + 2]? = some (.int .u64 o.ack) ∧ (ocells l)[i * 4 + 3]? = some o.v
  | [], i, p, h => by simp at h
  | q :: ps, 0, p, h => by simp at h; subst h; exact ⟨rfl, rfl, rfl, rfl⟩
  | q :: ps, i + 1, p, h => by
    have := ocells_at ps i p (by simpa using h)
    rw [show (i + 1) * 4 = i * 4 + 4 by omega]
    exact this
def OpsOk (w : World) (l : List OpV) : Prop := ∀ o ∈ l, (0 ≤ o.ack ∧ o.ack ≤ 18446744073709551615) ∧ o.b.size ≤ 9223372036854775807 ∧ Sl w (fun k => k < w.heap.size) 1 o.v o.b.size (byteCells o.b)

theorem SSinfo' : (Try.prog.info? 9).map (fun i => (i.zero, i.size, i.bytes)) = some (some (.string ⟨#[]⟩), 1, 16) := by kernel_rfl
theorem wrap_nat (x : Int) : ∃ u : Nat, IntKind.u64.wrap x = u ∧ u < 18446744073709551616 := by
  refine ⟨(IntKind.u64.wrap x).toNat, ?_, ?_⟩
  · rw [IntKind.wrap_u64]; omega
  · rw [IntKind.wrap_u64]; omega

def KInv (w : World) (b : Nat) (W : Int) (k : Nat) (ov cm nw : Value) (wr : World) : Prop :=
  ∃ (off : List ByteArray) (c : Nat) (fl : List Fl) (line : List ByteArray) (next nv : Int) (S So : Nat → Prop), cm = .int .i64 c ∧ nw = .int .i64 nv ∧ 0 ≤ nv ∧ nv ≤ 8 * k ∧ off.length ≤ k ∧ SendAt S wr b W 3 9 line fl next ∧ (∀ q, S q → w.heap.size ≤ q) ∧
    Own wr So 9 1 ov off.length (off.map Value.string) ∧ (∀ q, So q → w.heap.size ≤ q ∧ ¬ S q) ∧ Flow off c line fl next ∧ (fl.length : Int) ≤ W ∧ (∀ s ∈ off, s.size ≤ 4120) ∧ Chg NoB w wr

set_option maxHeartbeats 8000000 in
set_option maxRecDepth 100000 in
theorem sendKeeps_any (win : Int) (sv : Value) (ops : List OpV) (w : World) (hwin : 0 ≤ win ∧ win ≤ 255) (hs : Sl w (fun k => k < w.heap.size) 4 sv ops.length (ocells ops)) (hp : OpsOk w ops) (hlen : ops.length ≤ 9223372036854775807) :
    Calls Try.prog 11 #[.int .u8 win, sv] w (RetW (.bool true) fun w' => Chg NoB w w') := by
  obtain ⟨i0, hi0, hz0, hz1, hz2⟩ := info_parts SSinfo'
  obtain ⟨p, cap, rfl⟩ := hs.form
  obtain ⟨wn0, wn1⟩ := hwin
  obtain ⟨W, hW⟩ : ∃ W : Int, 1 + win % 10 = W := ⟨_, rfl⟩
  have hW1 : 1 ≤ W ∧ W ≤ 10 := by omega
  have HW := Lib.hid hW
  have HS := Lib.hid hs
  have HP := Lib.hid hp
  clear hW hs hp
  go_enter Try.func11, Try.ntmps11
  go_wp2_with fail
  refine (first17 w).mono ?_
  rintro e w1 ⟨rfl, C1⟩
  go_wp2_with fail
  rw [HW.out]
  refine (sendNew W 3 9 w1 (by unfold RightS; omega)).mono ?_
  rintro e w2 ⟨_, rfl, b, rfl, G2, C2⟩
  have hz1' := C1.size
  have hK : KInv w b W 0 (.slice none 0 0) (.int .i64 0) (.int .i64 0) w2 :=
    ⟨[], 0, [], [], 1, 0, fun k => w1.heap.size ≤ k, NoB, rfl, rfl, by omega, by omega, by simp, G2, fun q h => by omega, Own.nil _ _ _ _, fun _ h => h.elim, ⟨fun i f hf => by simp at hf, rfl, by simp, by simp⟩, by simp; omega, by simp, C1.step C2⟩
  clear G2 C1 C2
  go_wp2_with fail
  go_loopg [8, 9, 10, 28] ops.length (fun m ov cm nw ix wr => ∃ k : Nat, k + m = ops.length ∧ k ≤ 100 ∧ ix = .int .i64 k ∧ KInv w b W k ov cm nw wr)
  case atStart => exact ⟨0, by omega, by omega, rfl, hK⟩
  case round =>
    obtain ⟨k, hk, hk100, rfl, hI⟩ := hrel
    obtain ⟨off, c, fl, line, next, nv, S, So, rfl, rfl, hn0, hn1, hol, hG, hSH, hO, hSo, hFlow, hflW, hoff, hC⟩ := hI
    have HK := Lib.hid hk
    have hkl : k ≤ ops.length := by omega
    obtain ⟨S', hG, hS1⟩ : ∃ S' : Nat → Prop, SendAt S' wr b W 3 9 line fl next ∧ ∀ q, S' q → S q ∧ q < wr.heap.size := ⟨_, hG.bound (S' := fun q => S q ∧ q < wr.heap.size) fun q a b => ⟨b, a⟩, fun q h => h⟩
    obtain ⟨So', hO, hS2⟩ : ∃ So' : Nat → Prop, Own wr So' 9 1 u8 off.length (off.map Value.string) ∧ ∀ q, So' q → So q ∧ q < wr.heap.size := ⟨_, hO.monoIn (S' := fun q => So q ∧ q < wr.heap.size) fun q a b => ⟨b, a⟩, fun q h => h⟩
    have hSH : ∀ q, S' q → w.heap.size ≤ q ∧ q < wr.heap.size := fun q h => ⟨hSH q (hS1 q h).1, (hS1 q h).2⟩
    have hSo : ∀ q, So' q → (w.heap.size ≤ q ∧ q < wr.heap.size) ∧ ¬ S' q := fun q h => ⟨⟨(hSo q (hS2 q h).1).1, (hS2 q h).2⟩, fun e => (hSo q (hS2 q h).1).2 (hS1 q e).1⟩
    clear hS1 hS2
    clear hK hk
    by_cases hlt : k < ops.length
    · obtain ⟨o, ho⟩ : ∃ o, ops[k]? = some o := ⟨ops[k], by simp [hlt]⟩
      obtain ⟨⟨ha0, ha1⟩, hb0, hv⟩ := HP.out o (List.mem_of_getElem? ho)
      obtain ⟨-, p', c', e, hcp, hcells⟩ := HS.out
      cases e
      obtain ⟨g, of, rfl, hg, hgl, hcell⟩ := hcells (by omega)
      obtain ⟨a0, a1, a2, a3⟩ := ocells_at _ k o ho
      have k0 := hC.cell (hcell _ _ a0) id
      have k1 := hC.cell (hcell _ _ a1) id
      have k2 := hC.cell (hcell _ _ a2) id
      have k3 := hC.cell (hcell _ _ a3) id
      rw [← Nat.add_assoc] at k1 k2 k3
      obtain ⟨pv, cv, hov⟩ := hv.form
      rw [hov] at hv k3
      have l0 : (0 : Int) ≤ k := by omega
      have l1 : (k : Int) < ops.length := by omega
      have HV := Lib.hid hv
      have HG := Lib.hid hG
      have HSH := Lib.hid hSH
      have HO := Lib.hid hO
      have HSO := Lib.hid hSo
      have HFL := Lib.hid hFlow
      have HOF := Lib.hid hoff
      have HC := Lib.hid hC
      have hgw : g < wr.heap.size := Nat.lt_of_lt_of_le hgl hC.size
      obtain ⟨u, hu, hu2⟩ := wrap_nat o.kind
      obtain ⟨vi, hvi, hvi2⟩ := wrap_nat o.i
      obtain ⟨kind, oi, ack, ov', bs⟩ := o
      simp only at *
      clear hcells hcell a0 a1 a2 a3 ho hv hG hSH hO hSo hFlow hoff hC hov
      by_cases hk2 : k = 100
      · subst hk2
        go_wp2
        go_ret
        exact ⟨rfl, HC.out.alloc _⟩
      · have hk3 : decide ((100 : Int) ≤ k) = false := by simp; omega
        by_cases hsz : 4000 < bs.size
        · have hsz' : decide ((4000 : Int) < bs.size) = true := by simp; omega
          clear hk2
          go_wp2
          go_ret
          exact ⟨rfl, HC.out.alloc _⟩
        · have hsz' : decide ((4000 : Int) < bs.size) = false := by simp; omega
          have hbs : bs.size ≤ 4000 := by omega
          have hk99 : k + 1 ≤ 100 := by omega
          have E1 := ((Chg.refl NoB wr).alloc (.cells #[.int .i64 kind, .int .i64 oi, .int .u64 ack, .slice pv bs.size cv] 95))
          have B1 := Blk.new wr #[.int .i64 kind, .int .i64 oi, .int .u64 ack, .slice pv bs.size cv] 95
          clear hk2 hsz
          go_upto_block 2 with fail
          have hwl := E1.size
          have hza := HC.out.size
          have HGa := Lib.hid (HG.out.chg0 E1)
          have HOa := Lib.hid (HO.out.chg0 E1)
          have HCa := Lib.hid (HC.out.step E1)
          have HVa := Lib.hid (HV.out.chg0 (HC.out.step E1))
          have x0 := B1.cell' (i := 0) (v := .int .i64 kind) (by rfl)
          have x1 := B1.cell' (i := 1) (v := .int .i64 oi) (by rfl)
          have x2 := B1.cell' (i := 2) (v := .int .u64 ack) (by rfl)
          have x3 := B1.cell' (i := 3) (v := .slice pv bs.size cv) (by rfl)
          have xl := B1.lt
          have HB1 := Lib.hid B1
          generalize hwa : wr.alloc (.cells #[.int .i64 kind, .int .i64 oi, .int .u64 ack, .slice pv bs.size cv] 95) = wa at *
          clear k0 k1 k2 k3 hwa B1
          go_cut [8, 9, 10] (fun ov cm nw wx => KInv w b W (k + 1) ov cm nw wx)
          case first =>
            by_cases hr0 : u % 4 = 0
            · have d0 : ((u : Int) % 4 == 0) = true := by simp; omega
              clear hr0
              go_wp2_with fail
              refine (offerAt HGa.out _ bs HVa.out (by omega) (by have := HFL.out.lineLen; omega)).mono ?_
              rintro e w3 ⟨rfl, G3, C3⟩
              have hz3 := C3.size
              have HB3 := C3.blk HB1.out (fun e => by have := (HSH.out _ e).2; omega)
              have y3 := HB3.cell' (i := 3) (v := .slice pv bs.size cv) (by rfl)
              have yl := HB3.lt
              have hO3 := HOa.out.chg C3 fun q hq e => (HSO.out q hq).2 e
              have hV3 := HVa.out.chg C3 fun q hq e => by have := HSH.out q e; omega
              have hcv := run_text (P := Try.prog) 22 9 5 Try.underlying22 Try.underlying5 Try.underlying9 hV3
              have A4 := (Chg.refl NoB w3).alloc (.cells #[.string bs] 9)
              have oA := hO3.chg0 A4
              have sA : Sl (w3.alloc (.cells #[.string bs] 9)) _ 1 (.slice (some ⟨w3.heap.size, 0, none⟩) 1 1) 1 [.string bs] := Sl.fresh w3 [.string bs] 9 1 rfl
              have one1 : ∀ u ∈ [Value.string bs], u.oneCell' = true := by simp [Value.oneCell']
              have b1 : off.length + 1 ≤ maxLen := by unfold maxLen; omega
              have b2 : (off.length + 1) * 16 ≤ 140737488355328 := by omega
              have HG3 := Lib.hid G3
              have HOB := Lib.hid hO3.ownBlock
              have HC3 := Lib.hid C3
              clear x0 x1 x2 x3 G3 hO3 hV3 HB3 C3
              go_wp2_with (at_builtin; go_must (refine wpList_app rfl _ _ 42 rfl i0 _ 16 Try.underlying42 hi0 hz0 hz1 hz2 rfl rfl oA _ 1 _ rfl sA one1 b1 b2 ?_))
              intro v5 w5 o5 g5 _
              have C5 : Chg (fun q => Value.ownBlock u8 = some q) w3 w5 := (A4.mono (fun _ _ h => h.elim)).grown g5 (fun q hq => .inl hq)
              have HO5 := Lib.hid o5
              have HC5 := Lib.hid C5
              clear o5 g5 oA sA one1 b1 b2 A4 C5 hcv y3
              go_wp2_with fail
              go_meet
              have hz5 := HC5.out.size
              refine ⟨off ++ [bs], c, fl, line ++ [bs], next, nv, fun q => (S' q ∨ wa.heap.size ≤ q) ∧ q < w3.heap.size, fun q => Value.ownBlock u8 = some q ∨ w3.heap.size ≤ q, rfl, rfl, hn0, by omega, by simp; omega, ?_, ?_, ?_, ?_, HFL.out.offer bs, hflW, ?_, ?_⟩
              · refine ((HG3.out.bound (S' := fun q => (S' q ∨ wa.heap.size ≤ q) ∧ q < w3.heap.size) fun q a b => ⟨b, a⟩)).chg HC5.out fun q hq e => ?_
                obtain ⟨e1, e2⟩ := HOB.out q e
                rcases hq.1 with h | h
                · exact (HSO.out q e1).2 h
                · have := (HSO.out q e1).1.2; omega
              · intro q hq
                rcases hq.1 with h | h
                · exact (HSH.out q h).1
                · omega
              · rw [List.map_append, List.length_append]
                exact HO5.out.mono fun q h => h.elim .inl (fun h => .inr (by first | (rw [h]; simp) | omega))
              · intro q hq
                rcases hq with h | h
                · obtain ⟨e1, e2⟩ := HOB.out q h
                  obtain ⟨e3, e4⟩ := HSO.out q e1
                  exact ⟨e3.1, fun e => e.1.elim e4 (fun e => by omega)⟩
                · exact ⟨by omega, fun e => by omega⟩
              · intro s hs
                rcases List.mem_append.1 hs with h | h
                · exact HOF.out s h
                · simp at h; subst h; omega
              · exact (HCa.out.trans HC3.out fun q hq e => by have := (HSH.out q e).1; omega).trans HC5.out fun q hq e => by have := (HSO.out q (HOB.out q e).1).1.1; omega
            · have d0 : ((u : Int) % 4 == 0) = false := by simp; omega
              by_cases hr2 : u % 4 = 2
              · have d2 : ((u : Int) % 4 == 2) = true := by simp; omega
                clear hr0 hr2
                obtain ⟨d, hd, hF2, hd2⟩ := HFL.out.acked ack
                obtain ⟨fl2, hfl2⟩ : ∃ fl2, ackF ack next fl = fl2 := ⟨_, rfl⟩
                rw [hfl2] at hd hF2 hd2
                have HFL2 := Lib.hid hfl2
                have HF2 := Lib.hid hF2
                have hll := HFL.out.lineLen
                have hcc : c ≤ 100 := by omega
                have hdd : d ≤ 100 := by omega
                have HD := Lib.hid hd
                clear hfl2 hF2 hd
                go_wp2_with fail
                refine (ackedAt HGa.out (by omega) ack fl2 HFL2.out).mono ?_
                rintro e w3 ⟨rfl, G3, C3⟩
                rw [HD.out]
                have HG3 := Lib.hid G3
                have HC3 := Lib.hid C3
                have hO3 := HOa.out.chg C3 fun q hq e => (HSO.out q hq).2 e
                clear x0 x1 x2 x3 G3 C3
                go_wp2_with fail
                go_meet
                refine ⟨off, c + d, fl2, line, next, nv, _, _, by first | rfl | (congr 1; omega), rfl, hn0, by omega, by omega, HG3.out, fun q h => (HSH.out q h).1, hO3, fun q h => ⟨(HSO.out q h).1.1, (HSO.out q h).2⟩, HF2.out, by omega, HOF.out, HCa.out.trans HC3.out fun q hq e => by have := (HSH.out q e).1; omega⟩
              · have d2 : ((u : Int) % 4 == 2) = false := by simp; omega
                clear hr0 hr2
                have hvb : ((vi : Int) % 9) ≤ 8 ∧ 0 ≤ (vi : Int) % 9 := by omega
                obtain ⟨hvb1, hvb0⟩ := hvb
                obtain ⟨t, ht⟩ : ∃ t, nv + (vi : Int) % 9 = t := ⟨_, rfl⟩
                have HT := Lib.hid ht
                have ht0 : 0 ≤ t ∧ t ≤ 8 * (k + 1) := by omega
                obtain ⟨hFa, hgo⟩ := HFL.out.again (longest := 9) t (by omega)
                obtain ⟨⟨o2, l2, f2, n2⟩, hres⟩ : ∃ x, fillF W 3 t line (fl.map (agF t 9)) next = x := ⟨_, rfl⟩
                have hfi := Flow.fill (window := W) (t := t) (wait := 3) (by omega) line _ next hFa (by rw [List.length_map]; exact hflW)
                rw [hres] at hfi
                obtain ⟨hF2, hfw2, hgo2⟩ := hfi
                have hll := HFL.out.lineLen
                have hgood : ∀ q ∈ agOut t fl ++ o2, Good off c q := fun q hq => (List.mem_append.1 hq).elim (hgo q) (hgo2 q)
                have hnx := HFL.out.hnext
                have HRES := Lib.hid hres
                have HF2 := Lib.hid hF2
                have HGOOD := Lib.hid hgood
                have hcc : c ≤ 100 := by omega
                clear ht hFa hgo hres hF2 hgo2 hgood hnx
                go_wp2_with fail
                rw [HT.out]
                refine (outStep HGa.out t t (by unfold clampT; omega) (HFL.out.flOk HOF.out) (HFL.out.lineOk HOF.out) (by unfold RightS; omega) (by omega) (by omega) (by have := HFL.out.hnext; omega) o2 l2 f2 n2 HRES.out).mono ?_
                rintro e w3 ⟨q3, rfl, S3, X3, G3, O3, HX3, HS3, C3⟩
                have hO3 := HOa.out.chg C3 fun q hq e => (HSO.out q hq).2 e
                obtain ⟨pu, cu, rfl⟩ := hO3.form
                obtain ⟨S1, S2, vs, d1, d2', hOo, hOr⟩ := O3
                obtain ⟨pq, cq, rfl⟩ := hOo.form
                have hol : (agOut t fl ++ o2).length ≤ 100000 := by
                  have h1 : (agOut t fl).length ≤ fl.length := by unfold agOut; rw [List.length_map]; exact List.length_filter_le _ _
                  have h2 := fillF_len W 3 t line (fl.map (agF t 9)) next
                  rw [HRES.out] at h2
                  simp only at h2
                  rw [List.length_append]; omega
                generalize hou : agOut t fl ++ o2 = outs at *
                have HOO := Lib.hid hOo
                have HOR := Lib.hid hOr
                have HO3 := Lib.hid hO3
                have HG3 := Lib.hid G3
                have HC3 := Lib.hid C3
                have HX := Lib.hid HS3
                clear x0 x1 x2 x3 xl G3 C3 hO3 hOo hOr HX3 HS3 d1 d2' hou
                go_wp2_with fail
                go_loopg [56] outs.length (fun m ix wx => ∃ j : Nat, j + m = outs.length ∧ ix = .int .i64 j ∧ Chg NoB w3 wx)
                case atStart => exact ⟨0, by omega, rfl, Chg.refl _ _⟩
                case round =>
                  obtain ⟨j, hj, rfl, hCx⟩ := hrel
                  have HJ := Lib.hid hj
                  have hjl : j ≤ outs.length := by omega
                  clear hj
                  by_cases hltj : j < outs.length
                  · obtain ⟨⟨seq, s⟩, hp⟩ : ∃ p, outs[j]? = some p := ⟨outs[j], by simp [hltj]⟩
                    obtain ⟨n, hcn, hsq, hno⟩ := HGOOD.out _ (List.mem_of_getElem? hp)
                    simp only at hsq hno
                    subst hsq
                    have hnl := (List.getElem?_eq_some_iff.1 hno).1
                    obtain ⟨v, hv, hvs⟩ := HOR.out.2 j s (by simp [hp])
                    obtain ⟨pv2, cv2, rfl⟩ := hvs.form
                    obtain ⟨gq, oq, cq', e, -, hgq, -, hqc, -⟩ := HOO.out.spot (by omega)
                    cases e
                    obtain ⟨a0, a1⟩ := icells_at _ _ j _ _ hp hv
                    have k0 := hCx.cell (hqc _ _ a0) id
                    have k1 := hCx.cell (hqc _ _ a1) id
                    rw [← Nat.add_assoc] at k1
                    obtain ⟨gu, ou, cu', e, -, hgu, -, huc, -⟩ := HO3.out.spot (by omega)
                    cases e
                    have ku := hCx.cell (huc n (.string s) (by rw [List.getElem?_map, hno]; rfl)) id
                    have hsl := hvs.sl.chg0 hCx
                    have hguw : gu < wr.heap.size := Nat.lt_of_lt_of_le hgu hCx.size
                    have hcv : ∀ m, (convert 22 9 (.slice pv2 s.size cv2)).run Try.prog ((wr.alloc (.cells #[.int .u64 ((n : Int) + 1), .slice pv2 s.size cv2] 100)).drewN m) = .ok (.string s) ((wr.alloc (.cells #[.int .u64 ((n : Int) + 1), .slice pv2 s.size cv2] 100)).drewN m) := fun m =>
                      run_text (P := Try.prog) 22 9 5 Try.underlying22 Try.underlying5 Try.underlying9 ((hsl.chg0 ((Chg.refl NoB wr).alloc _)).chg0 ((Chg.refl NoB _).drewN m))
                    have j0 : (0 : Int) ≤ j := by omega
                    have j1 : (j : Int) < outs.length := by omega
                    have n0 : (0 : Int) ≤ n := by omega
                    have n1 : (n : Int) < off.length := by omega
                    have hof : off.length ≤ 100 := by omega
                    have q1 : decide ((n : Int) + 1 < 1) = false := by simp; omega
                    have q2 : decide ((off.length : Int) < (n : Int) + 1) = false := by simp; omega
                    have q3 : decide ((n : Int) + 1 ≤ (c : Int)) = false := by simp; omega
                    have q4 : decide (off.length < n + 1) = false := by simp; omega
                    have q5 : decide (off.length ≤ n) = false := by simp; omega
                    have q6 : decide (n + 1 ≤ c) = false := by simp; omega
                    have q7 : decide (n < c) = false := by simp; omega
                    clear hp hno hv hvs hqc a0 a1 huc hsl
                    go_wp2_with fail
                    go_quiet (fail)
                    go_wp2_with fail
                    go_roundg (outs.length - (j + 1))
                    case measure => have := HJ.out; omega
                    case rel => exact ⟨j + 1, by have := HJ.out; omega, by go_num, (hCx.alloc _).drewN _⟩
                  · obtain rfl : j = outs.length := by have := HJ.out; omega
                    go_wp2_with fail
                    go_meet
                    have hz3 := HC3.out.size
                    refine ⟨off, c, f2, l2, n2, t, S3, So', rfl, rfl, ht0.1, by omega, by omega, HG3.out.chg0 hCx, fun q h => (HX.out q h).elim (fun h => (HSH.out q h).1) (fun h => by omega), HO3.out.chg0 hCx, fun q h => ⟨(HSO.out q h).1.1, fun e => (HX.out q e).elim (HSO.out q h).2 (fun h2 => by have := (HSO.out q h).1.2; omega)⟩, HF2.out, hfw2, HOF.out, (HCa.out.trans HC3.out fun q hq e => by have := (HSH.out q e).1; omega).then0 hCx⟩
          case rest =>
            obtain ⟨off2, c2, fl2, line2, next2, nv2, S2, So2, rfl, rfl, hn02, hn12, hol2, hG2, hSH2, hO2, hSo2, hF2, hfw2, hoff2, hC2⟩ := hcut
            have HG2 := Lib.hid hG2
            have HO2 := Lib.hid hO2
            have hll2 := hF2.lineLen
            have hnx2 := hF2.hnext
            obtain ⟨pu, cu, rfl⟩ := hO2.form
            have HF2 := Lib.hid hF2
            have HNX2 := Lib.hid hnx2
            have HLL2 := Lib.hid hll2
            have q1 : decide (W < (fl2.length : Int)) = false := by simp; omega
            have q2 : ((c2 : Int) + (fl2.length : Int) + (line2.length : Int) != (off2.length : Int)) = false := by simp; omega
            have q3 : (next2 != (c2 : Int) + (fl2.length : Int) + 1) = false := by simp; omega
            have hb2 : c2 ≤ 200 ∧ fl2.length ≤ 200 ∧ line2.length ≤ 200 := by omega
            obtain ⟨hb3, hb4, hb5⟩ := hb2
            clear hG2 hO2 hF2 hnx2 hll2
            go_wp2_with fail
            refine (flightAt HG2.out).mono ?_
            rintro e w6 ⟨rfl, rfl⟩
            go_wp2_with fail
            refine (flightAt HG2.out).mono ?_
            rintro e w6 ⟨rfl, rfl⟩
            go_wp2_with fail
            refine (lineAt HG2.out).mono ?_
            rintro e w6 ⟨rfl, rfl⟩
            go_wp2_with fail
            refine (nextAt HG2.out).mono ?_
            rintro e w6 ⟨rfl, rfl⟩
            go_wp2_with fail
            refine (flightAt HG2.out).mono ?_
            rintro e w6 ⟨rfl, rfl⟩
            go_wp2_with fail
            go_roundg (ops.length - (k + 1))
            case measure => have := HK.out; omega
            case rel => exact ⟨k + 1, by have := HK.out; omega, by omega, by go_num, off2, c2, fl2, line2, next2, nv2, S2, So2, rfl, rfl, hn02, by omega, hol2, HG2.out, hSH2, HO2.out, hSo2, HF2.out, hfw2, hoff2, hC2⟩
    · obtain rfl : k = ops.length := by omega
      go_wp2
      go_ret
      exact ⟨rfl, hC⟩
end Go.Proofs.Ytokigldggkkbcaa
