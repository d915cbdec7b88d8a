/- The reference's sender: Out. -/
import Derived.Test.YtokigldggkkbcaaSendRef2
import Derived.Deep.CutBlock
set_option linter.unusedVariables false
namespace Go.Proofs.Ytokigldggkkbcaa
open Go.RowKit Go.RR

theorem Sl.drop1 {w : World} {S : Nat → Prop} {g off cap n : Nat} {u : Value} {us : List Value} (h : Sl w S 1 (.slice (some ⟨g, off, none⟩) (n + 1) cap) (n + 1) (u :: us)) :
    Sl w S 1 (.slice (some ⟨g, if 1 = cap then off else off + 1, none⟩) n (cap - 1)) n us := by
  obtain ⟨hl, p, c, e, hn, h2⟩ := h
  cases e
  obtain ⟨g', off', e, hS, hg, hc⟩ := h2 (by omega)
  cases e
  refine ⟨by simpa using hl, _, _, rfl, by omega, fun h0 => ?_⟩
  rw [if_neg (by omega)]
  refine ⟨g, off + 1, rfl, hS, hg, fun j u hu => ?_⟩
  rw [show off + 1 + j = off + (j + 1) by omega]
  exact hc (j + 1) u (by simpa using hu)

def RoutPost (S : Nat → Prop) (w : World) (c : Nat) (window wait longest : Int) (line2 : List ByteArray) (fl2 : List Fl) (next2 : Int) (outs : List (Int × ByteArray)) (q : Value) (w' : World) : Prop :=
  ∃ ob : List Fl, RefS (Grow S w) w' c window wait longest line2 fl2 next2 ∧ Sl w' (fun k => w.heap.size ≤ k) 4 q ob.length (bcells ob) ∧ ob.map (fun f => (f.seq, f.b)) = outs ∧ Chg S w w'

set_option maxHeartbeats 8000000 in
set_option maxRecDepth 100000 in
theorem routAt {S : Nat → Prop} {w : World} {c : Nat} {window wait longest : Int} {line : List ByteArray} {fl : List Fl} {next : Int} (h : RefS S w c window wait longest line fl next) (now t : Int) (ht : clampT now = t) (hfl : FlOk fl) (hrt : RightS window wait longest) (hlen : fl.length ≤ 1000) (hlen2 : line.length ≤ 1000) (hnx : 0 ≤ next ∧ next ≤ 1000000)
    (o2 : List (Int × ByteArray)) (line2 : List ByteArray) (fl2 : List Fl) (next2 : Int) (hres : fillF window wait t line (fl.map (agF t longest)) next = (o2, line2, fl2, next2)) :
    Calls Try.prog 61 #[.pointer (some ⟨c, 0, none⟩), .int .i64 now] w (RetV fun q w' => RoutPost S w c window wait longest line2 fl2 next2 (agOut t fl ++ o2) q w') := by
  obtain ⟨i0, hi0, hz0, hz1, hz2⟩ := info_parts BTinfo
  obtain ⟨lv, fv, h0, hB, hL, hF⟩ := h
  obtain ⟨p2, c2, rfl⟩ := hF.form
  obtain ⟨p1, c1, rfl⟩ := hL.form
  have HRES := Lib.hid hres
  obtain ⟨w1', w2', w3', w4', w5', w6'⟩ := hrt
  have htb : 0 ≤ t ∧ t ≤ 1099511627776 := by unfold clampT at ht; omega
  have HT := Lib.hid ht
  have HFL := Lib.hid hfl
  obtain ⟨hnx0, hnx1⟩ := hnx
  obtain ⟨ht0, ht1⟩ := htb
  have HB := Lib.hid hB
  have HL := Lib.hid (hL.monoIn (S' := fun k => (S k ∧ k ≠ c) ∧ k < w.heap.size) fun k a b => ⟨b, a⟩)
  have HF := Lib.hid hF
  have x4 := hB.cell' (i := 4) (v := .slice p2 fl.length c2) (by rfl)
  have hcl := hB.lt
  clear hres ht hfl hB hL hF
  go_enter Try.func61, Try.ntmps61
  go_upto_if 11 with fail
  go_cut [1] (fun s1 wx => s1 = .int .i64 (max now 0) ∧ w = wx)
  case first =>
    by_cases h1 : now < 0
    · have HE := Lib.hid (show max now 0 = 0 by omega)
      have d1 : decide (now < 0) = true := by simpa using h1
      go_wp2_with fail
      all_goals (go_meet; exact ⟨by rw [HE.out], rfl⟩)
    · have HE := Lib.hid (show max now 0 = now by omega)
      have d1 : decide (now < 0) = false := by simpa using h1
      go_wp2_with fail
      all_goals (go_meet; exact ⟨by rw [HE.out], rfl⟩)
  case rest =>
    obtain ⟨rfl, rfl⟩ := hcut
    obtain ⟨m0, hm0⟩ : ∃ m0, max now 0 = m0 := ⟨_, rfl⟩
    rw [hm0]
    have HM0 := Lib.hid hm0
    clear hm0
    go_upto_if 13 with fail
    go_cut [1] (fun s1 wx => s1 = .int .i64 t ∧ w = wx)
    case first =>
      have ht := HT.out
      have hm := HM0.out
      unfold clampT at ht
      by_cases h1 : 1099511627776 < m0
      · have HE := Lib.hid (show (1099511627776 : Int) = t by omega)
        have d1 : decide (1099511627776 < m0) = true := by simpa using h1
        clear ht hm
        go_wp2_with fail
        all_goals (go_meet; exact ⟨by rw [HE.out], rfl⟩)
      · have HE := Lib.hid (show m0 = t by omega)
        have d1 : decide (1099511627776 < m0) = false := by simpa using h1
        clear ht hm
        go_wp2_with fail
        all_goals (go_meet; exact ⟨by rw [HE.out], rfl⟩)
    case rest =>
      obtain ⟨rfl, rfl⟩ := hcut
      go_wp2_with fail
      go_loopg [5, 6, 19] fl.length (fun m vo vl ix wr => ∃ i : Nat, i + m = fl.length ∧ ix = .int .i64 i ∧ Two w.heap.size wr vo vl (((fl.take i).filter fun f => decide (f.due ≤ t)).map (agF t longest)) ((fl.take i).map (agF t longest)) ∧ Chg NoB w wr)
      case atStart => exact ⟨0, by omega, rfl, ⟨NoB, NoB, fun _ h => h.elim, fun _ h => h.elim, Own.nil _ _ _ _, Own.nil _ _ _ _⟩, Chg.refl _ _⟩
      case round =>
        obtain ⟨i, hi, rfl, hT2, hC⟩ := hrel
        have HI := Lib.hid hi
        have hil : i ≤ fl.length := by omega
        have HT2 := Lib.hid hT2
        clear hi hT2 x4
        by_cases hlt : i < fl.length
        · obtain ⟨f, hf⟩ : ∃ f, fl[i]? = some f := ⟨fl[i], by simp [hlt]⟩
          obtain ⟨-, p, c', e, -, h2⟩ := HF.out
          cases e
          obtain ⟨g, off, rfl, -, hg, hc⟩ := h2 (by omega)
          obtain ⟨a0, a1, a2, a3⟩ := bcells_at _ i f hf
          have k0 := hC.cell (hc _ _ a0) id
          have k1 := hC.cell (hc _ _ a1) id
          have k2 := hC.cell (hc _ _ a2) id
          have k3 := hC.cell (hc _ _ a3) id
          rw [← Nat.add_assoc] at k1 k2 k3
          have j0 : (0 : Int) ≤ i := by omega
          have j1 : (i : Int) < fl.length := by omega
          obtain ⟨⟨hw0, hw1⟩, hbs⟩ := HFL.out f (List.mem_of_getElem? hf)
          have htk : fl.take (i + 1) = fl.take i ++ [f] := by rw [List.take_add_one, hf]; rfl
          have hoe : (((fl.take (i + 1)).filter fun f => decide (f.due ≤ t)).map (agF t longest)) = (((fl.take i).filter fun f => decide (f.due ≤ t)).map (agF t longest)) ++ if f.due ≤ t then [agF t longest f] else [] := by
            rw [htk, List.filter_append, List.map_append]
            congr 1
            by_cases h : f.due ≤ t <;> simp [h]
          have hle : ((fl.take (i + 1)).map (agF t longest)) = ((fl.take i).map (agF t longest)) ++ [agF t longest f] := by rw [htk, List.map_append]; rfl
          have hol : (((fl.take i).filter fun f => decide (f.due ≤ t)).map (agF t longest)).length ≤ 1000 := by
            have h1 := List.length_filter_le (fun f : Fl => decide (f.due ≤ t)) (fl.take i)
            rw [List.length_take] at h1
            rw [List.length_map]; omega
          have hll : ((fl.take i).map (agF t longest)).length ≤ 1000 := by rw [List.length_map, List.length_take]; omega
          generalize hO1 : (((fl.take i).filter fun f => decide (f.due ≤ t)).map (agF t longest)) = ob at *
          generalize hL1 : ((fl.take i).map (agF t longest)) = ls at *
          have HOE := Lib.hid hoe
          have HLE := Lib.hid hle
          have E1 := (Chg.refl NoB wr).alloc (.cells #[.int .u64 f.seq, .string f.b, .int .i64 f.due, .int .i64 f.wait] 138)
          have B1 := Blk.new wr #[.int .u64 f.seq, .string f.b, .int .i64 f.due, .int .i64 f.wait] 138
          have hHr := hC.size
          have y2 := (hC.blk0 HB.out).cell' (i := 2) (v := .int .i64 longest) (by rfl)
          have ycl := (hC.blk0 HB.out).lt
          clear h2 hc a0 a1 a2 a3 htk hoe hle hO1 hL1 hf
          go_upto_if 26 with fail
          obtain ⟨bx, hbx⟩ : ∃ bx, wr.heap.size = bx := ⟨_, rfl⟩
          have HBX := Lib.hid hbx
          rw [hbx] at B1
          rw [hbx]
          have y2a := E1.cell y2 id
          have v0 := B1.cell' (i := 0) (v := .int .u64 f.seq) (by rfl)
          have v1 := B1.cell' (i := 1) (v := .string f.b) (by rfl)
          have v2 := B1.cell' (i := 2) (v := .int .i64 f.due) (by rfl)
          have v3 := B1.cell' (i := 3) (v := .int .i64 f.wait) (by rfl)
          have vl := B1.lt
          have hza := E1.size
          have hycla : c < (wr.alloc (.cells #[.int .u64 f.seq, .string f.b, .int .i64 f.due, .int .i64 f.wait] 138)).heap.size := by omega
          generalize hwa : wr.alloc (.cells #[.int .u64 f.seq, .string f.b, .int .i64 f.due, .int .i64 f.wait] 138) = wa at *
          have HB1 := Lib.hid B1
          have HE1 := Lib.hid E1
          have hcbx : c ≠ bx := by omega
          clear hwa k0 k1 k2 k3 y2 B1 E1 hbx
          go_cut [5] (fun vo' wx => Two w.heap.size wx vo' u6 (ob ++ if f.due ≤ t then [agF t longest f] else []) ls ∧ Blk wx bx #[.int .u64 (agF t longest f).seq, .string (agF t longest f).b, .int .i64 (agF t longest f).due, .int .i64 (agF t longest f).wait] 138 ∧ Chg NoB w wx)
          case first =>
            by_cases hdue : f.due ≤ t
            · have d1 : decide (f.due ≤ t) = true := by simpa using hdue
              obtain ⟨wt, hwt⟩ : ∃ wt, min (2 * f.wait) longest = wt := ⟨_, rfl⟩
              have hag : agF t longest f = ⟨f.seq, f.b, t + wt, wt⟩ := by unfold agF; rw [if_pos hdue, hwt]
              have hwtb : 0 ≤ wt ∧ wt ≤ 1000 := by omega
              have HWT := Lib.hid hwt
              have HAG := Lib.hid hag
              have HDUE := Lib.hid hdue
              clear hwt hag
              go_upto_region 10 with fail
              go_cut [] (fun wx => ∃ w2, Chg NoB wa w2 ∧ wx = w2.setCell ⟨bx, 3, none⟩ (.int .i64 wt))
              case first =>
                have hwt := HWT.out
                by_cases hm : f.wait + f.wait < longest
                · have HE := Lib.hid (show f.wait + f.wait = wt by omega)
                  clear hwt
                  refine wp_region_plan 11 [] [0, 1, 2, 3, 4, 5, 6, 7, 8, 9, 10] (by kernel_rfl) (by kernel_rfl) (fun _ _ _ _ _ h => h) ?_
                  simp only [pickOps_nil, pickOps_cons, Option.getD_some, List.getElem?_toArray, List.getElem?_cons_zero, List.getElem?_cons_succ, List.cons_append, List.nil_append, List.drop_succ_cons, List.drop_zero]
                  repeat (go_big_quiet_step (fail))
                  refine wpQuiet_nil ?_
                  intro w2 hw2
                  have C2 := Chg.of_ex hw2
                  clear hw2
                  have B2 := C2.blk0 HB1.out
                  have z3 := B2.cell' (i := 3) (v := .int .i64 f.wait) (by rfl)
                  have zf := B2.frozen 3
                  have zl := B2.lt
                  clear B2
                  go_wp2_with fail
                  go_meet
                  exact ⟨w2, C2, by rw [HE.out]⟩
                · have HE := Lib.hid (show longest = wt by omega)
                  have hm' : longest ≤ f.wait + f.wait := by omega
                  clear hwt hm
                  refine wp_region_plan 11 [] [0, 1, 2, 3, 4, 5, 6, 7, 8, 9, 10] (by kernel_rfl) (by kernel_rfl) (fun _ _ _ _ _ h => h) ?_
                  simp only [pickOps_nil, pickOps_cons, Option.getD_some, List.getElem?_toArray, List.getElem?_cons_zero, List.getElem?_cons_succ, List.cons_append, List.nil_append, List.drop_succ_cons, List.drop_zero]
                  repeat (go_big_quiet_step (fail))
                  refine wpQuiet_nil ?_
                  intro w2 hw2
                  have C2 := Chg.of_ex hw2
                  clear hw2
                  have B2 := C2.blk0 HB1.out
                  have z3 := B2.cell' (i := 3) (v := .int .i64 f.wait) (by rfl)
                  have zf := B2.frozen 3
                  have zl := B2.lt
                  clear B2
                  go_wp2_with fail
                  go_meet
                  exact ⟨w2, C2, by rw [HE.out]⟩
              case rest =>
                obtain ⟨w2, C2, rfl⟩ := hcut
                have B3 := (C2.blk0 HB1.out).set 3 (.int .i64 wt)
                have C3 : Chg NoB wr (w2.setCell ⟨bx, 3, none⟩ (.int .i64 wt)) := (HE1.out.step C2).setCell (a := ⟨bx, 3, none⟩) (.inr (by have := HBX.out; simp only; omega)) _
                generalize hw3 : w2.setCell ⟨bx, 3, none⟩ (.int .i64 wt) = w3 at *
                have z2 := B3.cell' (i := 2) (v := .int .i64 f.due) (by rfl)
                have z3 := B3.cell' (i := 3) (v := .int .i64 wt) (by rfl)
                have zf := B3.frozen 2
                have zl := B3.lt
                have HB3 := Lib.hid B3
                clear hw3 C2 v0 v1 v2 v3 vl y2a hycla B3
                go_upto_region 12 with fail
                have B4 := HB3.out.set 2 (.int .i64 (t + wt))
                have C4 : Chg NoB wr (w3.setCell ⟨bx, 2, none⟩ (.int .i64 (t + wt))) := C3.setCell (a := ⟨bx, 2, none⟩) (.inr (by have := HBX.out; simp only; omega)) _
                generalize hw4 : w3.setCell ⟨bx, 2, none⟩ (.int .i64 (t + wt)) = w4 at *
                obtain ⟨A', B', t1, t2, t3, t4⟩ := HT2.out
                have t3 := t3.chg0 C4
                have t4 := t4.chg0 C4
                have v0 := B4.cell' (i := 0) (v := .int .u64 f.seq) (by rfl)
                have v1 := B4.cell' (i := 1) (v := .string f.b) (by rfl)
                have v2 := B4.cell' (i := 2) (v := .int .i64 (t + wt)) (by rfl)
                have v3 := B4.cell' (i := 3) (v := .int .i64 wt) (by rfl)
                have HB4 := Lib.hid B4
                have T1 := Lib.hid t1
                have T2 := Lib.hid t2
                have T3 := Lib.hid t3
                have T4 := Lib.hid t4
                have HC4 := Lib.hid C4
                have hz4 := C4.size
                clear hw4 C3 C4 z2 z3 zf zl B4 t1 t2 t3 t4 HB3
                -- one body more behind a slice of the call's own; world w4, the body's block bx known there
                have A3a := (Chg.refl NoB w4).alloc (.cells #[.int .u64 (⟨f.seq, f.b, t + wt, wt⟩ : Fl).seq, .string (⟨f.seq, f.b, t + wt, wt⟩ : Fl).b, .int .i64 (⟨f.seq, f.b, t + wt, wt⟩ : Fl).due, .int .i64 (⟨f.seq, f.b, t + wt, wt⟩ : Fl).wait] 138)
                have oAa := (T3.out).chg0 A3a
                have sAa : Sl (w4.alloc (.cells #[.int .u64 (⟨f.seq, f.b, t + wt, wt⟩ : Fl).seq, .string (⟨f.seq, f.b, t + wt, wt⟩ : Fl).b, .int .i64 (⟨f.seq, f.b, t + wt, wt⟩ : Fl).due, .int .i64 (⟨f.seq, f.b, t + wt, wt⟩ : Fl).wait] 138)) _ 4 (.slice (some ⟨w4.heap.size, 0, none⟩) 1 1) 1 [.int .u64 (⟨f.seq, f.b, t + wt, wt⟩ : Fl).seq, .string (⟨f.seq, f.b, t + wt, wt⟩ : Fl).b, .int .i64 (⟨f.seq, f.b, t + wt, wt⟩ : Fl).due, .int .i64 (⟨f.seq, f.b, t + wt, wt⟩ : Fl).wait] := Sl.fresh w4 [.int .u64 (⟨f.seq, f.b, t + wt, wt⟩ : Fl).seq, .string (⟨f.seq, f.b, t + wt, wt⟩ : Fl).b, .int .i64 (⟨f.seq, f.b, t + wt, wt⟩ : Fl).due, .int .i64 (⟨f.seq, f.b, t + wt, wt⟩ : Fl).wait] 138 1 rfl
                have one1a : ∀ u ∈ [Value.int .u64 (⟨f.seq, f.b, t + wt, wt⟩ : Fl).seq, .string (⟨f.seq, f.b, t + wt, wt⟩ : Fl).b, .int .i64 (⟨f.seq, f.b, t + wt, wt⟩ : Fl).due, .int .i64 (⟨f.seq, f.b, t + wt, wt⟩ : Fl).wait], u.oneCell' = true := by simp [Value.oneCell']
                have b1a : ob.length + 1 ≤ maxLen := by unfold maxLen; omega
                have b2a : (ob.length + 1) * 40 ≤ 140737488355328 := by omega
                go_wp2_with (at_builtin; go_must (refine wpList_app rfl _ _ 91 rfl i0 _ 40 Try.underlying91 hi0 hz0 hz1 hz2 rfl rfl oAa _ 1 _ rfl sAa one1a b1a b2a ?_))
                intro v8 w8 o8 g8 _
                have C8 : Chg (fun k => Value.ownBlock u5 = some k) w4 w8 := (A3a.mono (fun _ _ h => h.elim)).grown g8 (fun k hk => .inl hk)
                obtain ⟨R8, CC8⟩ := Two.addO (f := ⟨f.seq, f.b, t + wt, wt⟩) (fun q h => ⟨⟨(T1.out q h).1.1, by have := (T1.out q h).1.2; omega⟩, (T1.out q h).2⟩) (fun q h => ⟨(T2.out q h).1, by have := (T2.out q h).2; omega⟩) T3.out T4.out (by have := HBX.out; omega) o8 (by first | omega | simp) C8
                have B8 := C8.blk HB4.out (fun e => by have := (T1.out _ (T3.out.ownBlock _ e).1).1.2; have := HBX.out; omega)
                have HR8 := Lib.hid R8
                have HB8 := Lib.hid B8
                have CF : Chg NoB w w8 := (hC.step HC4.out).trans CC8 fun q hq e => absurd hq (Nat.not_lt.2 e)
                clear o8 oAa sAa one1a b1a b2a g8 A3a C8 R8 CC8 B8 v0 v1 v2 v3
                go_wp2_with fail
                go_meet
                rw [if_pos HDUE.out, HAG.out]
                exact ⟨HR8.out, HB8.out, CF⟩
            · have d1 : decide (f.due ≤ t) = false := by simpa using hdue
              have HAG := Lib.hid (show agF t longest f = f by unfold agF; rw [if_neg hdue])
              go_wp2_with fail
              go_meet
              rw [if_neg (by omega), List.append_nil, HAG.out]
              exact ⟨HT2.out.chg0 HE1.out, HB1.out, hC.step HE1.out⟩
          case rest =>
            obtain ⟨hT3, hB3, hC3⟩ := hcut
            generalize hwb : agF t longest f = f' at *
            have v0 := hB3.cell' (i := 0) (v := .int .u64 f'.seq) (by rfl)
            have v1 := hB3.cell' (i := 1) (v := .string f'.b) (by rfl)
            have v2 := hB3.cell' (i := 2) (v := .int .i64 f'.due) (by rfl)
            have v3 := hB3.cell' (i := 3) (v := .int .i64 f'.wait) (by rfl)
            obtain ⟨A', B', t1, t2, t3, t4⟩ := hT3
            have T1 := Lib.hid t1
            have T2 := Lib.hid t2
            have T3 := Lib.hid t3
            have T4 := Lib.hid t4
            have hHc := hC3.size
            have HC3 := Lib.hid hC3
            obtain ⟨wk, hwk⟩ : ∃ wk, wk = wc := ⟨_, rfl⟩
            subst hwk
            clear t1 t2 t3 t4 hB3 hC3 hwb
            -- one body more behind a slice of the call's own; world wk, the body's block bx known there
            have A3b := (Chg.refl NoB wk).alloc (.cells #[.int .u64 f'.seq, .string f'.b, .int .i64 f'.due, .int .i64 f'.wait] 138)
            have oAb := (T4.out).chg0 A3b
            have sAb : Sl (wk.alloc (.cells #[.int .u64 f'.seq, .string f'.b, .int .i64 f'.due, .int .i64 f'.wait] 138)) _ 4 (.slice (some ⟨wk.heap.size, 0, none⟩) 1 1) 1 [.int .u64 f'.seq, .string f'.b, .int .i64 f'.due, .int .i64 f'.wait] := Sl.fresh wk [.int .u64 f'.seq, .string f'.b, .int .i64 f'.due, .int .i64 f'.wait] 138 1 rfl
            have one1b : ∀ u ∈ [Value.int .u64 f'.seq, .string f'.b, .int .i64 f'.due, .int .i64 f'.wait], u.oneCell' = true := by simp [Value.oneCell']
            have b1b : ls.length + 1 ≤ maxLen := by unfold maxLen; omega
            have b2b : (ls.length + 1) * 40 ≤ 140737488355328 := by omega
            go_wp2_with (at_builtin; go_must (refine wpList_app rfl _ _ 91 rfl i0 _ 40 Try.underlying91 hi0 hz0 hz1 hz2 rfl rfl oAb _ 1 _ rfl sAb one1b b1b b2b ?_))
            intro v8 w8 o8 g8 _
            have C8 : Chg (fun k => Value.ownBlock u6 = some k) wk w8 := (A3b.mono (fun _ _ h => h.elim)).grown g8 (fun k hk => .inl hk)
            obtain ⟨R8, CC8⟩ := Two.addL (f := f') T1.out T2.out T3.out T4.out hHc o8 (by first | omega | simp) C8
            have HR8 := Lib.hid R8
            have CF : Chg NoB w w8 := HC3.out.trans CC8 fun q hq e => absurd hq (Nat.not_lt.2 e)
            clear o8 oAb sAb one1b b1b b2b g8 A3b C8 R8 CC8 v0 v1 v2 v3
            go_wp2_with fail
            go_roundg (fl.length - (i + 1))
            case measure => have := HI.out; omega
            case rel => exact ⟨i + 1, by have := HI.out; omega, by go_num, by rw [HOE.out, HLE.out]; exact HR8.out, CF⟩
        · obtain rfl : i = fl.length := by have := HI.out; omega
          have hT3 := HT2.out
          rw [List.take_length] at hT3
          have hHr := hC.size
          have hmo : (((fl.filter fun f => decide (f.due ≤ t)).map (agF t longest)).map fun f => (f.seq, f.b)) = agOut t fl ++ [] := by
            rw [List.append_nil, List.map_map]
            unfold agOut
            refine List.map_congr_left fun f _ => ?_
            simp [agF_seq, agF_b]
          have HMO := Lib.hid hmo
          have HT3 := Lib.hid hT3
          have HB0 := Lib.hid (hC.blk0 HB.out)
          have HL0 := Lib.hid (HL.out.chg0 hC)
          obtain ⟨wq, hwq⟩ : ∃ wq, wq = wr := ⟨_, rfl⟩
          subst hwq
          have HC0 := Lib.hid hC
          clear hmo hT3 hC HT2
          go_wp2_with fail
          go_loopg [5, 6] line.length (fun m vo vl wr => ∃ (ln : List ByteArray) (fs : List Fl) (nx : Int) (o1 o3 : List (Int × ByteArray)) (ob : List Fl) (lv : Value), ln.length = m ∧ ln.length ≤ line.length ∧ fs.length + m = fl.length + line.length ∧ nx + m = next + line.length ∧ ob.length + m ≤ fl.length + line.length ∧
            Blk wr c #[.int .i64 window, .int .i64 wait, .int .i64 longest, lv, .slice p2 fl.length c2, .int .u64 nx] 93 ∧ Sl wr (fun k => (S k ∧ k ≠ c) ∧ k < w.heap.size) 1 lv ln.length (ln.map Value.string) ∧ Two w.heap.size wr vo vl ob fs ∧ (ob.map fun f => (f.seq, f.b)) = agOut t fl ++ o1 ∧ fillF window wait t ln fs nx = (o3, line2, fl2, next2) ∧ o2 = o1 ++ o3 ∧ Chg (· = c) w wr)
          case atStart =>
            have hol : ((fl.filter fun f => decide (f.due ≤ t)).map (agF t longest)).length ≤ fl.length := by rw [List.length_map]; exact List.length_filter_le _ _
            exact ⟨line, fl.map (agF t longest), next, [], o2, _, _, rfl, Nat.le_refl _, by simp, by omega, by omega, HB0.out, HL0.out, HT3.out, HMO.out, HRES.out, rfl, HC0.out.mono fun _ _ h => h.elim⟩
          case round =>
            obtain ⟨ln, fs, nx, o1, o3, ob, lv, hlm, hlle, hfm, hnm, hom, hB, hL, hT2, hmap, hfill, ho2, hC⟩ := hrel
            have HLL := Lib.hid hlle
            have HLM := Lib.hid hlm
            have HFM := Lib.hid hfm
            have HNM := Lib.hid hnm
            have HOM := Lib.hid hom
            have HFI := Lib.hid hfill
            have HO2 := Lib.hid ho2
            have HMAP := Lib.hid hmap
            have hzr := hC.size
            obtain ⟨p5, c5, rfl⟩ := hL.form
            obtain ⟨A', B', t1, t2, t3, t4⟩ := hT2
            obtain ⟨pl, cl, rfl⟩ := t4.form
            have x0 := hB.cell' (i := 0) (v := .int .i64 window) (by rfl)
            have x1 := hB.cell' (i := 1) (v := .int .i64 wait) (by rfl)
            have x3 := hB.cell' (i := 3) (v := .slice p5 ln.length c5) (by rfl)
            have x5 := hB.cell' (i := 5) (v := .int .u64 nx) (by rfl)
            have xl := hB.lt
            have HBr := Lib.hid hB
            have HLr := Lib.hid hL
            have HCr := Lib.hid hC
            have T1 := Lib.hid t1
            have T2 := Lib.hid t2
            have T3 := Lib.hid t3
            have T4 := Lib.hid t4
            clear hlm hlle hfm hnm hom hfill ho2 hmap hB hL hC t1 t2 t3 t4 HT3 HB0 HL0 HC0 HMO
            by_cases hw : (fs.length : Int) < window
            · have d1 : decide ((fs.length : Int) < window) = true := by simpa using hw
              cases ln with
              | nil =>
                simp only [List.length_nil] at x3
                have d2 : decide ((0 : Int) < ((0 : Nat) : Int)) = false := by simp
                have xf := HBr.out.frozen 4
                have x4 := HBr.out.cell' (i := 4) (v := .slice p2 fl.length c2) (by rfl)
                go_wp2_with fail
                go_ret
                have hfi := HFI.out
                have hfe : (o3, line2, fl2, next2) = ([], ([] : List ByteArray), fs, nx) := by rw [← hfi]; first | rfl | (unfold fillF; rw [if_neg hw]) | (cases ([] : List ByteArray) <;> simp [fillF, hw])
                cases hfe
                have ho := HO2.out
                rw [List.append_nil] at ho
                subst ho
                have CS := (Chg.refl (· = c) wr).setCell (a := ⟨c, 4, none⟩) (.inl rfl) (.slice pl fl2.length cl)
                refine ⟨_, rfl, ob, ⟨_, _, .inl h0, HBr.out.set 4 _, (HLr.out.chg CS fun k hk e => hk.1.2 e).mono fun k hk => ⟨.inl hk.1.1, hk.1.2⟩, (T4.out.sl.chg CS fun k hk e => by have := (T2.out k hk).1; omega).mono fun k hk => ⟨.inr (T2.out k hk).1, by have := (T2.out k hk).1; omega⟩⟩, (T3.out.sl.chg CS fun k hk e => by have := (T1.out k hk).1.1; omega).mono fun k hk => (T1.out k hk).1.1, HMAP.out, (HCr.out.mono (S' := S) fun k _ e => e ▸ h0).trans CS fun k _ e => e ▸ h0⟩
              | cons s ln =>
                have d2 : decide ((0 : Int) < ((s :: ln).length : Int)) = true := by simp
                obtain ⟨-, p, c', e, hcp, h2⟩ := HLr.out
                cases e
                obtain ⟨gl, ol, rfl, hgl, hgl2, hcell⟩ := h2 (by simp)
                have ys := hcell 0 (.string s) rfl
                rw [Nat.add_zero] at ys
                have hlpos : (0 : Int) < ((s :: ln).length : Int) := by simp
                have hlpos2 : (0 : Int) < (ln.length : Int) + 1 := by omega
                clear h2 hcell
                simp only [List.length_cons] at x3 hcp
                go_upto_region 16 with fail
                refine wp_region_take 22 [0, 1, 2, 3, 4, 5, 6, 7, 8, 9, 10, 11, 12, 13, 14, 15, 16, 17, 18, 19, 20] [21] (fun w' => w'.cell? ⟨c, 5, none⟩ = some (.int .u64 nx) ∧ w'.cell? ⟨c, 3, none⟩ = some (.slice (some ⟨gl, ol, none⟩) (ln.length + 1) c5) ∧ w'.cell? ⟨gl, ol, none⟩ = some (.string s) ∧ w'.cell? ⟨c, 1, none⟩ = some (.int .i64 wait)) (by kernel_rfl) (by kernel_rfl) (fun _ _ _ _ _ h => h) (⟨x5, x3, ys, x1⟩) ?_
                simp only [pickOps_nil, pickOps_cons, Option.getD_some, List.getElem?_toArray, List.getElem?_cons_zero, List.getElem?_cons_succ, List.cons_append, List.nil_append, List.drop_succ_cons, List.drop_zero]
                repeat
                  refine wpTake_cons' rfl ?_
                  apply Exists.intro
                  refine ⟨fun wS hS => ?_, ?_⟩
                  · try dsimp only at hS
                    obtain ⟨x5, x3, ys, x1⟩ := hS
                    go_simp
                    try rfl
                  simp only [Act.put, List.setIfInBounds_toArray, List.set_cons_zero, List.set_cons_succ]
                refine wpTake_nil ?_
                refine wpForce_cons rfl (fun K hK => ?_)
                go_simp
                have C6 := ((Chg.refl NoB wr).alloc (.cells #[.int .u64 0, .string ⟨#[]⟩, .int .i64 0, .int .i64 0] 138)).drew
                have B6 : Blk (wr.alloc (.cells #[.int .u64 0, .string ⟨#[]⟩, .int .i64 0, .int .i64 0] 138)).drew wr.heap.size #[.int .u64 0, .string ⟨#[]⟩, .int .i64 0, .int .i64 0] 138 := Blk.new wr _ 138
                refine hK _ _ ⟨C6.cell x5 id, C6.cell x3 id, C6.cell ys id, C6.cell x1 id⟩ ?_
                refine wpForce_nil ?_
                generalize hw6 : (wr.alloc (.cells #[.int .u64 0, .string ⟨#[]⟩, .int .i64 0, .int .i64 0] 138)).drew = w6 at *
                obtain ⟨bx, hbx⟩ : ∃ bx, wr.heap.size = bx := ⟨_, rfl⟩
                have HBX := Lib.hid hbx
                rw [hbx] at B6
                have z0 := B6.cell' (i := 0) (v := .int .u64 0) (by rfl)
                have z1 := B6.cell' (i := 1) (v := .string ⟨#[]⟩) (by rfl)
                have z2 := B6.cell' (i := 2) (v := .int .i64 0) (by rfl)
                have z3 := B6.cell' (i := 3) (v := .int .i64 0) (by rfl)
                have f0 := B6.frozen 0
                have f1 := B6.frozen 1
                have f2 := B6.frozen 2
                have f3 := B6.frozen 3
                have zl := B6.lt
                have hbw : wr.heap.size ≤ bx := by omega
                have B7 : Blk ((((w6.setCell ⟨bx, 0, none⟩ (.int .u64 nx)).setCell ⟨bx, 1, none⟩ (.string s)).setCell ⟨bx, 2, none⟩ (.int .i64 (t + wait))).setCell ⟨bx, 3, none⟩ (.int .i64 wait)) bx #[.int .u64 nx, .string s, .int .i64 (t + wait), .int .i64 wait] 138 := (((B6.set 0 _).set 1 _).set 2 _).set 3 _
                have C7 : Chg NoB wr ((((w6.setCell ⟨bx, 0, none⟩ (.int .u64 nx)).setCell ⟨bx, 1, none⟩ (.string s)).setCell ⟨bx, 2, none⟩ (.int .i64 (t + wait))).setCell ⟨bx, 3, none⟩ (.int .i64 wait)) :=
                  (((C6.setCell (a := ⟨bx, 0, none⟩) (.inr hbw) _).setCell (a := ⟨bx, 1, none⟩) (.inr hbw) _).setCell (a := ⟨bx, 2, none⟩) (.inr hbw) _).setCell (a := ⟨bx, 3, none⟩) (.inr hbw) _
                have HB7 := Lib.hid B7
                have HC7 := Lib.hid C7
                clear hK K hw6 hbx B6 B7 C7 x1 x3 x5 ys C6
                rw [HBX.out]
                go_upto_region 17 with fail
                generalize hw7 : (((w6.setCell ⟨bx, 0, none⟩ (.int .u64 nx)).setCell ⟨bx, 1, none⟩ (.string s)).setCell ⟨bx, 2, none⟩ (.int .i64 (t + wait))).setCell ⟨bx, 3, none⟩ (.int .i64 wait) = w7 at *
                have Bc7 := HC7.out.blk0 HBr.out
                have y3 := Bc7.cell' (i := 3) (v := .slice (some ⟨gl, ol, none⟩) (ln.length + 1) c5) (by rfl)
                have yf3 := Bc7.frozen 3
                have yl := Bc7.lt
                have hz7 := HC7.out.size
                have hz7' : bx < w7.heap.size := HB7.out.lt
                have HBc7 := Lib.hid Bc7
                have lc0 : (1 : Int) ≤ (ln.length : Int) + 1 := by omega
                have lc1 : (ln.length : Int) + 1 ≤ c5 := by omega
                clear hw7 Bc7 z0 z1 z2 z3 f0 f1 f2 f3 zl hbw x0 xl
                obtain ⟨o', ho'⟩ : ∃ o', (if 1 = c5 then ol else ol + 1) = o' := ⟨_, rfl⟩
                have hdr := Sl.drop1 (n := ln.length) (u := .string s) (us := ln.map Value.string) HLr.out
                rw [ho'] at hdr
                have HDR := Lib.hid hdr
                have HOFF := Lib.hid ho'
                clear hdr ho'
                go_cut [] (fun wx => wx = w7.setCell ⟨c, 3, none⟩ (.slice (some ⟨gl, o', none⟩) ln.length (c5 - 1)))
                case first =>
                  by_cases hc1 : 1 = c5
                  · have h1 := HOFF.out
                    rw [if_pos hc1] at h1
                    subst h1
                    have hln : ln.length = 0 := by omega
                    have hc2 : c5 = 1 := hc1.symm
                    clear hc1
                    go_wp2_with fail
                    all_goals (go_meet; first | rfl | (rw [hc2]; rfl) | simp [hc2, hln])
                  · have h1 := HOFF.out
                    rw [if_neg hc1] at h1
                    subst h1
                    have hc2 : ¬ c5 = 1 := fun e => hc1 e.symm
                    go_wp2_with fail
                    all_goals (go_meet; first | rfl | simp)
                case rest =>
                  subst hcut
                  have B8 := HBc7.out.set 3 (.slice (some ⟨gl, o', none⟩) ln.length (c5 - 1))
                  have CS8 := (Chg.refl (· = c) w7).setCell (a := ⟨c, 3, none⟩) (.inl rfl) (.slice (some ⟨gl, o', none⟩) ln.length (c5 - 1))
                  have hcbx : bx ≠ c := fun e => by have := HBX.out; omega
                  have BX8 := CS8.blk HB7.out hcbx
                  generalize hw8 : w7.setCell ⟨c, 3, none⟩ (.slice (some ⟨gl, o', none⟩) ln.length (c5 - 1)) = w8 at *
                  have y5 := B8.cell' (i := 5) (v := .int .u64 nx) (by rfl)
                  have yf5 := B8.frozen 5
                  have yl := B8.lt
                  have hnb : nx ≤ 2000000 := by have := HNM.out; omega
                  have hnb0 : 0 ≤ nx := by have h1 := HNM.out; have h2 := HLM.out; have h3 := HLL.out; omega
                  clear y3 yf3 hw8
                  go_upto_region 19 with fail
                  have B9 := B8.set 5 (.int .u64 (nx + 1))
                  have CS9 := (Chg.refl (· = c) w8).setCell (a := ⟨c, 5, none⟩) (.inl rfl) (.int .u64 (nx + 1))
                  have BX9 := CS9.blk BX8 hcbx
                  generalize hw9 : w8.setCell ⟨c, 5, none⟩ (.int .u64 (nx + 1)) = w9 at *
                  have Cr9 : Chg (· = c) wr w9 := ((HC7.out.mono (S' := (· = c)) fun _ _ h => h.elim).trans CS8 fun _ _ h => h).trans CS9 fun _ _ h => h
                  have v0 := BX9.cell' (i := 0) (v := .int .u64 nx) (by rfl)
                  have v1 := BX9.cell' (i := 1) (v := .string s) (by rfl)
                  have v2 := BX9.cell' (i := 2) (v := .int .i64 (t + wait)) (by rfl)
                  have v3 := BX9.cell' (i := 3) (v := .int .i64 wait) (by rfl)
                  have HB9 := Lib.hid B9
                  have HBX9 := Lib.hid BX9
                  have hcw : c < w.heap.size := hcl
                  have T3q := Lib.hid (T3.out.chg Cr9 fun q hq e => by have := (T1.out q hq).1.1; omega)
                  have T4q := Lib.hid (T4.out.chg Cr9 fun q hq e => by have := (T2.out q hq).1; omega)
                  have HCr9 := Lib.hid Cr9
                  have hz9 := Cr9.size
                  clear hw9 B8 CS8 CS9 B9 BX8 BX9 y5 yf5 Cr9
                  have hfl9 : fs.length ≤ 2000 := by have := HFM.out; omega
                  -- one body more behind a slice of the call's own; world w9, the body's block bx known there
                  have A3c := (Chg.refl NoB w9).alloc (.cells #[.int .u64 (⟨nx, s, t + wait, wait⟩ : Fl).seq, .string (⟨nx, s, t + wait, wait⟩ : Fl).b, .int .i64 (⟨nx, s, t + wait, wait⟩ : Fl).due, .int .i64 (⟨nx, s, t + wait, wait⟩ : Fl).wait] 138)
                  have oAc := (T4q.out).chg0 A3c
                  have sAc : Sl (w9.alloc (.cells #[.int .u64 (⟨nx, s, t + wait, wait⟩ : Fl).seq, .string (⟨nx, s, t + wait, wait⟩ : Fl).b, .int .i64 (⟨nx, s, t + wait, wait⟩ : Fl).due, .int .i64 (⟨nx, s, t + wait, wait⟩ : Fl).wait] 138)) _ 4 (.slice (some ⟨w9.heap.size, 0, none⟩) 1 1) 1 [.int .u64 (⟨nx, s, t + wait, wait⟩ : Fl).seq, .string (⟨nx, s, t + wait, wait⟩ : Fl).b, .int .i64 (⟨nx, s, t + wait, wait⟩ : Fl).due, .int .i64 (⟨nx, s, t + wait, wait⟩ : Fl).wait] := Sl.fresh w9 [.int .u64 (⟨nx, s, t + wait, wait⟩ : Fl).seq, .string (⟨nx, s, t + wait, wait⟩ : Fl).b, .int .i64 (⟨nx, s, t + wait, wait⟩ : Fl).due, .int .i64 (⟨nx, s, t + wait, wait⟩ : Fl).wait] 138 1 rfl
                  have one1c : ∀ u ∈ [Value.int .u64 (⟨nx, s, t + wait, wait⟩ : Fl).seq, .string (⟨nx, s, t + wait, wait⟩ : Fl).b, .int .i64 (⟨nx, s, t + wait, wait⟩ : Fl).due, .int .i64 (⟨nx, s, t + wait, wait⟩ : Fl).wait], u.oneCell' = true := by simp [Value.oneCell']
                  have b1c : fs.length + 1 ≤ maxLen := by unfold maxLen; omega
                  have b2c : (fs.length + 1) * 40 ≤ 140737488355328 := by omega
                  go_wp2_with (at_builtin; go_must (refine wpList_app rfl _ _ 91 rfl i0 _ 40 Try.underlying91 hi0 hz0 hz1 hz2 rfl rfl oAc _ 1 _ rfl sAc one1c b1c b2c ?_))
                  intro v10 w10 o10 g10 _
                  have C10 : Chg (fun k => (Value.slice pl fs.length cl).ownBlock = some k) w9 w10 := (A3c.mono (fun _ _ h => h.elim)).grown g10 (fun k hk => .inl hk)
                  obtain ⟨R10, CC10⟩ := Two.addL (f := ⟨nx, s, t + wait, wait⟩) (fun q h => ⟨⟨(T1.out q h).1.1, by have := (T1.out q h).1.2; omega⟩, (T1.out q h).2⟩) (fun q h => ⟨(T2.out q h).1, by have := (T2.out q h).2; omega⟩) T3q.out T4q.out (by omega) o10 (by first | omega | simp) C10
                  have BX10 := C10.blk HBX9.out (fun e => by have := (T2.out _ (T4.out.ownBlock _ e).1).2; have := HBX.out; omega)
                  have v0 := BX10.cell' (i := 0) (v := .int .u64 nx) (by rfl)
                  have v1 := BX10.cell' (i := 1) (v := .string s) (by rfl)
                  have v2 := BX10.cell' (i := 2) (v := .int .i64 (t + wait)) (by rfl)
                  have v3 := BX10.cell' (i := 3) (v := .int .i64 wait) (by rfl)
                  obtain ⟨A2, B2, u1, u2, u3, u4⟩ := R10
                  have U1 := Lib.hid u1
                  have U2 := Lib.hid u2
                  have U3 := Lib.hid u3
                  have U4 := Lib.hid u4
                  have HCC10 := Lib.hid CC10
                  have hz10 := CC10.size
                  have hob10 : ob.length ≤ 2000 := by have := HOM.out; omega
                  clear o10 oAc sAc one1c b1c b2c g10 A3c C10 CC10 BX10 u1 u2 u3 u4
                  -- one body more behind a slice of the call's own; world w10, the body's block bx known there
                  have A3d := (Chg.refl NoB w10).alloc (.cells #[.int .u64 (⟨nx, s, t + wait, wait⟩ : Fl).seq, .string (⟨nx, s, t + wait, wait⟩ : Fl).b, .int .i64 (⟨nx, s, t + wait, wait⟩ : Fl).due, .int .i64 (⟨nx, s, t + wait, wait⟩ : Fl).wait] 138)
                  have oAd := (U3.out).chg0 A3d
                  have sAd : Sl (w10.alloc (.cells #[.int .u64 (⟨nx, s, t + wait, wait⟩ : Fl).seq, .string (⟨nx, s, t + wait, wait⟩ : Fl).b, .int .i64 (⟨nx, s, t + wait, wait⟩ : Fl).due, .int .i64 (⟨nx, s, t + wait, wait⟩ : Fl).wait] 138)) _ 4 (.slice (some ⟨w10.heap.size, 0, none⟩) 1 1) 1 [.int .u64 (⟨nx, s, t + wait, wait⟩ : Fl).seq, .string (⟨nx, s, t + wait, wait⟩ : Fl).b, .int .i64 (⟨nx, s, t + wait, wait⟩ : Fl).due, .int .i64 (⟨nx, s, t + wait, wait⟩ : Fl).wait] := Sl.fresh w10 [.int .u64 (⟨nx, s, t + wait, wait⟩ : Fl).seq, .string (⟨nx, s, t + wait, wait⟩ : Fl).b, .int .i64 (⟨nx, s, t + wait, wait⟩ : Fl).due, .int .i64 (⟨nx, s, t + wait, wait⟩ : Fl).wait] 138 1 rfl
                  have one1d : ∀ u ∈ [Value.int .u64 (⟨nx, s, t + wait, wait⟩ : Fl).seq, .string (⟨nx, s, t + wait, wait⟩ : Fl).b, .int .i64 (⟨nx, s, t + wait, wait⟩ : Fl).due, .int .i64 (⟨nx, s, t + wait, wait⟩ : Fl).wait], u.oneCell' = true := by simp [Value.oneCell']
                  have b1d : ob.length + 1 ≤ maxLen := by unfold maxLen; omega
                  have b2d : (ob.length + 1) * 40 ≤ 140737488355328 := by omega
                  go_wp2_with (at_builtin; go_must (refine wpList_app rfl _ _ 91 rfl i0 _ 40 Try.underlying91 hi0 hz0 hz1 hz2 rfl rfl oAd _ 1 _ rfl sAd one1d b1d b2d ?_))
                  intro v11 w11 o11 g11 _
                  have C11 : Chg (fun k => Value.ownBlock u5 = some k) w10 w11 := (A3d.mono (fun _ _ h => h.elim)).grown g11 (fun k hk => .inl hk)
                  obtain ⟨R11, CC11⟩ := Two.addO (f := ⟨nx, s, t + wait, wait⟩) U1.out U2.out U3.out U4.out (by omega) o11 (by first | omega | simp) C11
                  have HR11 := Lib.hid R11
                  have C911 : Chg (fun k => w.heap.size ≤ k) w9 w11 := HCC10.out.trans CC11 fun _ _ h => h
                  have Bc11 := C911.blk HB9.out (by omega)
                  have HBc11 := Lib.hid Bc11
                  have hL11 := (HDR.out.chg HCr9.out fun k hk e => hk.1.2 e).chg C911 fun k hk e => by omega
                  have HL11 := Lib.hid hL11
                  have CF : Chg (· = c) w w11 := (HCr.out.trans HCr9.out fun _ _ h => h).trans C911 fun q hq e => absurd hq (Nat.not_lt.2 e)
                  have HCF := Lib.hid CF
                  have hfi := HFI.out
                  unfold fillF at hfi
                  rw [if_pos hw] at hfi
                  obtain ⟨f1, f2⟩ := Prod.mk.inj hfi
                  have HF1 := Lib.hid f1
                  have HF2 := Lib.hid f2
                  clear o11 oAd sAd one1d b1d b2d g11 A3d C11 CC11 R11 C911 Bc11 hL11 CF hfi f1 f2 v0 v1 v2 v3
                  go_wp2_with fail
                  go_roundg ln.length
                  case measure => have := HLM.out; simp only [List.length_cons] at this; omega
                  case rel =>
                    have hlm := HLM.out
                    simp only [List.length_cons] at hlm
                    refine ⟨ln, fs ++ [⟨nx, s, t + wait, wait⟩], nx + 1, o1 ++ [(nx, s)], _, ob ++ [⟨nx, s, t + wait, wait⟩], _, rfl, by have h3 := HLL.out; simp only [List.length_cons] at h3; omega, ?_, ?_, ?_, HBc11.out, HL11.out, HR11.out, ?_, Prod.ext rfl HF2.out, ?_, HCF.out⟩
                    · have := HFM.out; simp; omega
                    · have := HNM.out; omega
                    · have := HOM.out; simp; omega
                    · rw [List.map_append, HMAP.out]; simp
                    · rw [HO2.out, ← HF1.out]; simp
            · have d1 : decide ((fs.length : Int) < window) = false := by simpa using hw
              have xf := HBr.out.frozen 4
              have x4 := HBr.out.cell' (i := 4) (v := .slice p2 fl.length c2) (by rfl)
              go_wp2_with fail
              go_ret
              have hfi := HFI.out
              have hfe : (o3, line2, fl2, next2) = ([], ln, fs, nx) := by rw [← hfi]; first | rfl | (unfold fillF; rw [if_neg hw]) | (cases ln <;> simp [fillF, hw])
              cases hfe
              have ho := HO2.out
              rw [List.append_nil] at ho
              subst ho
              have CS := (Chg.refl (· = c) wr).setCell (a := ⟨c, 4, none⟩) (.inl rfl) (.slice pl fl2.length cl)
              refine ⟨_, rfl, ob, ⟨_, _, .inl h0, HBr.out.set 4 _, (HLr.out.chg CS fun k hk e => hk.1.2 e).mono fun k hk => ⟨.inl hk.1.1, hk.1.2⟩, (T4.out.sl.chg CS fun k hk e => by have := (T2.out k hk).1; omega).mono fun k hk => ⟨.inr (T2.out k hk).1, by have := (T2.out k hk).1; omega⟩⟩, (T3.out.sl.chg CS fun k hk e => by have := (T1.out k hk).1.1; omega).mono fun k hk => (T1.out k hk).1.1, HMAP.out, (HCr.out.mono (S' := S) fun k _ e => e ▸ h0).trans CS fun k _ e => e ▸ h0⟩
end Go.Proofs.Ytokigldggkkbcaa
