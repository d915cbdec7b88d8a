/- TraceRuns returns true, whatever it is given. No condition. -/
import Derived.Test.YtfidiiifcmmffaaDoorTrace24
import Derived.Test.YtfidiiifcmmffaaDoorTrace11
set_option linter.unusedVariables false
set_option linter.unusedSimpArgs false
namespace Go.Proofs.YtfidiiifcmmffaaDoor
open Go.RowKit Go.RR

set_option maxHeartbeats 8000000 in
set_option maxRecDepth 100000 in
theorem traceRuns_any (a b : Ac) (n m : Nat) (w : World) (ha : i64A a) (hb : i64A b) (hn : n < 65536) (hm : m < 65536) (L : Lb w) :
    Calls Tryd.prog 5 #[.agg #[.int .i64 a.1, .int .i64 a.2.1, .int .i64 a.2.2], .agg #[.int .i64 b.1, .int .i64 b.2.1, .int .i64 b.2.2], .agg #[.int .u16 n, .int .u16 m]] w (RetW (.bool true) fun w' => Chg NoB w w') := by
  obtain ⟨i0, hi0, hz0, hz1, hz2⟩ := info_parts ActInfo
  obtain ⟨ka, xa, ya⟩ := a
  obtain ⟨kb, xb, yb⟩ := b
  simp only
  have HC0 := Lib.hid ((((Chg.refl NoB w).alloc (.cells #[.int .i64 ka, .int .i64 xa, .int .i64 ya] 23)).alloc (.cells #[.int .i64 kb, .int .i64 xb, .int .i64 yb] 23)).alloc (.cells #[.int .u16 n, .int .u16 m] 39))
  have HBA := Lib.hid (((Blk.new w #[.int .i64 ka, .int .i64 xa, .int .i64 ya] 23).alloc (.cells #[.int .i64 kb, .int .i64 xb, .int .i64 yb] 23)).alloc (.cells #[.int .u16 n, .int .u16 m] 39))
  have HBB : Hid (Blk (((w.alloc (.cells #[.int .i64 ka, .int .i64 xa, .int .i64 ya] 23)).alloc (.cells #[.int .i64 kb, .int .i64 xb, .int .i64 yb] 23)).alloc (.cells #[.int .u16 n, .int .u16 m] 39)) (w.heap.size + 1) #[.int .i64 kb, .int .i64 xb, .int .i64 yb] 23) := Lib.hid (by
    have := (Blk.new (w.alloc (.cells #[.int .i64 ka, .int .i64 xa, .int .i64 ya] 23)) #[.int .i64 kb, .int .i64 xb, .int .i64 yb] 23).alloc (.cells #[.int .u16 n, .int .u16 m] 39)
    simpa using this)
  have HBH : Hid (Blk (((w.alloc (.cells #[.int .i64 ka, .int .i64 xa, .int .i64 ya] 23)).alloc (.cells #[.int .i64 kb, .int .i64 xb, .int .i64 yb] 23)).alloc (.cells #[.int .u16 n, .int .u16 m] 39)) (w.heap.size + 1 + 1) #[.int .u16 n, .int .u16 m] 39) := Lib.hid (by
    have := Blk.new ((w.alloc (.cells #[.int .i64 ka, .int .i64 xa, .int .i64 ya] 23)).alloc (.cells #[.int .i64 kb, .int .i64 xb, .int .i64 yb] 23)) #[.int .u16 n, .int .u16 m] 39
    simpa using this)
  have HL := Lib.hid L
  have HAI := Lib.hid ha
  have HBI := Lib.hid hb
  obtain ⟨r, er⟩ : ∃ r : Nat, (n : Int) % 2000 = r := ⟨n % 2000, by omega⟩
  obtain ⟨u, eu⟩ : ∃ u : Nat, (m : Int) % 2000 = u := ⟨m % 2000, by omega⟩
  have hr : r < 2000 := by omega
  have hu : u < 2000 := by omega
  clear L ha hb
  go_enter Tryd.func5, Tryd.ntmps5
  go_wp2_with fail
  refine (first34_any _ (HL.out.chg0 HC0.out)).mono ?_
  rintro e w1 ⟨rfl, C1⟩
  have HC1 := Lib.hid (HC0.out.step C1)
  have HA1 := Lib.hid (C1.blk0 HBA.out)
  have HB1 := Lib.hid (C1.blk0 HBB.out)
  have HH1 := Lib.hid (C1.blk0 HBH.out)
  clear C1
  have h0 := HH1.out.cell' (i := 0) (v := .int .u16 n) rfl
  have h1 := HH1.out.cell' (i := 1) (v := .int .u16 m) rfl
  go_wp2_with fail
  go_quiet (fail)
  have HA2 := Lib.hid (HA1.out.drewN nq)
  have HB2 := Lib.hid (HB1.out.drewN nq)
  have HC2 := Lib.hid (HC1.out.drewN nq)
  clear h0 h1
  have x0 := HA2.out.cell' (i := 0) (v := .int .i64 ka) rfl
  have x1 := HA2.out.cell' (i := 1) (v := .int .i64 xa) rfl
  have x2 := HA2.out.cell' (i := 2) (v := .int .i64 ya) rfl
  go_wp2_with fail
  refine (tact_any ka xa ya _ HAI.out.2.1 HAI.out.2.2 HAI.out.1 (HL.out.chg0 HC2.out)).mono ?_
  rintro e w3 ⟨rfl, C3⟩
  have HC3 := Lib.hid (HC2.out.step C3)
  have HA3 := Lib.hid (C3.blk0 HA2.out)
  have HB3 := Lib.hid (C3.blk0 HB2.out)
  clear C3 x0 x1 x2
  have qa := actB (ka, xa, ya)
  cases hqa : decide (actF (ka, xa, ya) = [])
  · rw [hqa] at qa
    have HNA := Lib.hid (of_decide_eq_false hqa)
    clear hqa
    have y0 := HB3.out.cell' (i := 0) (v := .int .i64 kb) rfl
    have y1 := HB3.out.cell' (i := 1) (v := .int .i64 xb) rfl
    have y2 := HB3.out.cell' (i := 2) (v := .int .i64 yb) rfl
    go_wp2_with fail
    refine (tact_any kb xb yb _ HBI.out.2.1 HBI.out.2.2 HBI.out.1 (HL.out.chg0 HC3.out)).mono ?_
    rintro e w4 ⟨rfl, C4⟩
    have HC4 := Lib.hid (HC3.out.step C4)
    have HA4 := Lib.hid (C4.blk0 HA3.out)
    have HB4 := Lib.hid (C4.blk0 HB3.out)
    clear C4 y0 y1 y2
    have qb := actB (kb, xb, yb)
    cases hqb : decide (actF (kb, xb, yb) = [])
    · rw [hqb] at qb
      have HNB := Lib.hid (of_decide_eq_false hqb)
      clear hqb
      have x0 := HA4.out.cell' (i := 0) (v := .int .i64 ka) rfl
      have x1 := HA4.out.cell' (i := 1) (v := .int .i64 xa) rfl
      have x2 := HA4.out.cell' (i := 2) (v := .int .i64 ya) rfl
      have y0 := HB4.out.cell' (i := 0) (v := .int .i64 kb) rfl
      have y1 := HB4.out.cell' (i := 1) (v := .int .i64 xb) rfl
      have y2 := HB4.out.cell' (i := 2) (v := .int .i64 yb) rfl
      have k3 := act_eq (ka, xa, ya) (kb, xb, yb)
      have k2 := eq_guard
      cases hab : decide ((ka, xa, ya) = ((kb, xb, yb) : Ac))
      · rw [hab] at k3
        have HAB := Lib.hid (of_decide_eq_false hab)
        clear hab
        go_wp2_with fail
        try simp only [er, eu]
        go_loopg [9, 42] (r + 1) (fun g ov cv wr => ∃ k : Nat, k + g = r + 1 ∧ cv = .int .u16 k ∧ Own wr (fun j => w4.heap.size ≤ j) 23 3 ov (k) (alist (List.replicate k (ka, xa, ya))) ∧ Chg NoB w4 wr)
        case atStart => exact ⟨0, by omega, rfl, Own.nil _ _ _ _, Chg.refl _ _⟩
        case round =>
          obtain ⟨k, hk, rfl, hO, hC⟩ := hrel
          rename World => wr
          obtain ⟨po, co, rfl⟩ := hO.form
          have HK := Lib.hid hk
          have HO := Lib.hid hO
          have HC := Lib.hid hC
          have hkl : k ≤ r + 1 := by omega
          have k0 : (0 : Int) ≤ k ∧ (k : Int) ≤ 2000 := by omega
          have w16 : IntKind.u16.wrap ((k : Int) + 1) = k + 1 := Go.IntWalk.u16_in _ (by omega)
          clear hk hO hC
          by_cases hlt : k < r + 1
          · have t0 : decide ((k : Int) < 1 + (r : Int)) = true := by simp; omega
            have HX := Lib.hid (HC.out.blk0 HA4.out)
            have x0 := HX.out.cell' (i := 0) (v := .int .i64 ka) rfl
            have x1 := HX.out.cell' (i := 1) (v := .int .i64 xa) rfl
            have x2 := HX.out.cell' (i := 2) (v := .int .i64 ya) rfl
            have SX : Sl (wr.alloc (.cells #[.int .i64 ka, .int .i64 xa, .int .i64 ya] 23)) (fun k => k = wr.heap.size) 3 (.slice (some ⟨wr.heap.size, 0, none⟩) 1 1) 1 (alist [(ka, xa, ya)]) := Sl.fresh wr (alist [(ka, xa, ya)]) 23 1 rfl
            have OX := HO.out.chg0 ((Chg.refl NoB wr).alloc (.cells #[.int .i64 ka, .int .i64 xa, .int .i64 ya] 23))
            have one : ∀ v ∈ alist [(ka, xa, ya)], v.oneCell' = true := alist_one _
            have b1 : k + 1 ≤ maxLen := by unfold maxLen; omega
            have b2 : (k + 1) * 24 ≤ 140737488355328 := by omega
            have k63 : ((k : Nat) : Int) + 1 ≤ 9223372036854775807 := by omega
            go_wp2_with (at_builtin; go_must (refine wpList_app rfl _ _ 25 rfl i0 _ 24 Tryd.underlying25 hi0 hz0 hz1 hz2 rfl rfl OX _ 1 _ rfl SX one b1 b2 ?_))
            intro v5 w5 o5 g5 _
            have HO5 : Hid (Own w5 (fun j => w4.heap.size ≤ j) 23 3 v5 (k + 1) (alist (List.replicate (k + 1) (ka, xa, ya)))) := Lib.hid (by
              rw [List.replicate_succ', alist_app]
              exact o5.mono fun k hk => by
                rcases hk with hk | hk
                · exact (HO.out.ownBlock k hk).1
                · subst hk
                  have := HC.out.size
                  show w4.heap.size ≤ wr.heap.size + 1
                  omega)
            have HC5 : Hid (Chg NoB w4 w5) := Lib.hid ((HC.out.alloc (.cells #[.int .i64 ka, .int .i64 xa, .int .i64 ya] 23)).trans (grown_chg (S := fun j => w4.heap.size ≤ j) g5 fun k hk => (HO.out.ownBlock k hk).1) (fun k h1 h2 => by omega))
            obtain ⟨p5, c5, rfl⟩ := o5.form
            clear SX OX one b1 b2 o5 g5 x0 x1 x2
            go_wp2_with fail
            go_roundg (r + 1 - (k + 1))
            case measure => have := HK.out; omega
            case rel => exact ⟨k + 1, by have := HK.out; omega, by go_num, HO5.out, HC5.out⟩
          · obtain rfl : r + 1 = k := by omega
            have t0 : decide (((r + 1 : Nat) : Int) < 1 + (r : Int)) = false := by simp; try omega
            go_wp2_with fail
            try simp only [er, eu]
            go_loopg [9, 51] (u) (fun g ov cv wr => ∃ k : Nat, k + g = u ∧ cv = .int .u16 k ∧ Own wr (fun j => w4.heap.size ≤ j) 23 3 ov ((r + 1) + k) (alist (List.replicate (r + 1) (ka, xa, ya) ++ List.replicate k (kb, xb, yb))) ∧ Chg NoB w4 wr)
            case atStart => exact ⟨0, by omega, rfl, by rw [List.replicate_zero, List.append_nil]; exact HO.out, HC.out⟩
            case round =>
              obtain ⟨k, hk, rfl, hO, hC⟩ := hrel
              rename World => wr
              obtain ⟨po, co, rfl⟩ := hO.form
              have HK := Lib.hid hk
              have HO := Lib.hid hO
              have HC := Lib.hid hC
              have hkl : k ≤ u := by omega
              have k0 : (0 : Int) ≤ k ∧ (k : Int) ≤ 2000 := by omega
              have w16 : IntKind.u16.wrap ((k : Int) + 1) = k + 1 := Go.IntWalk.u16_in _ (by omega)
              clear hk hO hC
              by_cases hlt : k < u
              · have t0 : decide ((k : Int) < u) = true := by simp; omega
                have HX := Lib.hid (HC.out.blk0 HB4.out)
                have x0 := HX.out.cell' (i := 0) (v := .int .i64 kb) rfl
                have x1 := HX.out.cell' (i := 1) (v := .int .i64 xb) rfl
                have x2 := HX.out.cell' (i := 2) (v := .int .i64 yb) rfl
                have SX : Sl (wr.alloc (.cells #[.int .i64 kb, .int .i64 xb, .int .i64 yb] 23)) (fun k => k = wr.heap.size) 3 (.slice (some ⟨wr.heap.size, 0, none⟩) 1 1) 1 (alist [(kb, xb, yb)]) := Sl.fresh wr (alist [(kb, xb, yb)]) 23 1 rfl
                have OX := HO.out.chg0 ((Chg.refl NoB wr).alloc (.cells #[.int .i64 kb, .int .i64 xb, .int .i64 yb] 23))
                have one : ∀ v ∈ alist [(kb, xb, yb)], v.oneCell' = true := alist_one _
                have b1 : (r + 1) + k + 1 ≤ maxLen := by unfold maxLen; omega
                have b2 : ((r + 1) + k + 1) * 24 ≤ 140737488355328 := by omega
                have k63 : (((r + 1) + k : Nat) : Int) + 1 ≤ 9223372036854775807 := by omega
                go_wp2_with (at_builtin; go_must (refine wpList_app rfl _ _ 25 rfl i0 _ 24 Tryd.underlying25 hi0 hz0 hz1 hz2 rfl rfl OX _ 1 _ rfl SX one b1 b2 ?_))
                intro v5 w5 o5 g5 _
                have HO5 : Hid (Own w5 (fun j => w4.heap.size ≤ j) 23 3 v5 ((r + 1) + k + 1) (alist (List.replicate (r + 1) (ka, xa, ya) ++ List.replicate (k + 1) (kb, xb, yb)))) := Lib.hid (by
                  rw [show List.replicate (r + 1) (ka, xa, ya) ++ List.replicate (k + 1) (kb, xb, yb) = (List.replicate (r + 1) (ka, xa, ya) ++ List.replicate k (kb, xb, yb)) ++ [(kb, xb, yb)] from by rw [List.replicate_succ' (n := k), List.append_assoc], alist_app]
                  exact o5.mono fun k hk => by
                    rcases hk with hk | hk
                    · exact (HO.out.ownBlock k hk).1
                    · subst hk
                      have := HC.out.size
                      show w4.heap.size ≤ wr.heap.size + 1
                      omega)
                have HC5 : Hid (Chg NoB w4 w5) := Lib.hid ((HC.out.alloc (.cells #[.int .i64 kb, .int .i64 xb, .int .i64 yb] 23)).trans (grown_chg (S := fun j => w4.heap.size ≤ j) g5 fun k hk => (HO.out.ownBlock k hk).1) (fun k h1 h2 => by omega))
                obtain ⟨p5, c5, rfl⟩ := o5.form
                clear SX OX one b1 b2 o5 g5 x0 x1 x2
                go_wp2_with fail
                go_roundg (u - (k + 1))
                case measure => have := HK.out; omega
                case rel => exact ⟨k + 1, by have := HK.out; omega, by go_num, HO5.out, HC5.out⟩
              · obtain rfl : u = k := by omega
                have t0 : decide ((u : Int) < u) = false := by simp; try omega
                go_wp2_with fail
                have HWS : Hid (∃ ls : List Ac, ls = List.replicate (r + 1) (ka, xa, ya) ++ List.replicate u (kb, xb, yb)) := Lib.hid ⟨_, rfl⟩
                obtain ⟨ls, hls⟩ := HWS.out
                have hlen : ls.length = r + 1 + u := by rw [hls]; simp
                have hls64 : ∀ a ∈ ls, i64A a := by
                  rw [hls]
                  intro a ha
                  rcases List.mem_append.1 ha with h | h
                  · rw [(List.mem_replicate.1 h).2]; exact HAI.out
                  · rw [(List.mem_replicate.1 h).2]; exact HBI.out
                have hpt : printF ls = some (runT (ka, xa, ya) (kb, xb, yb) r u) := by rw [hls]; exact print_two HNA.out HNB.out HAB.out r u
                have HAT : Hid (AAt wr (.slice po (r + 1 + u) co) ls) := Lib.hid ⟨_, by rw [hlen, hls]; exact HO.out.sl⟩
                have HCW := Lib.hid (HC4.out.step HC.out)
                have HPR := tprint_any _ ls wr HAT.out (by omega) hls64 (HL.out.chg0 HCW.out)
                rw [hpt] at HPR
                simp only [Option.getD_some] at HPR
                have hcnt := runT_count (n := r) (m := u) HNA.out HNB.out
                have htl := runT_len (a := (ka, xa, ya)) (b := (kb, xb, yb)) (n := r) (m := u) HAI.out HBI.out (by omega) (by omega)
                have hbad := runT_bad (b := (kb, xb, yb)) (n := r) (m := u) HNA.out HAI.out (by omega)
                have hback := parse_back hpt hls64 (by omega)
                generalize runT (ka, xa, ya) (kb, xb, yb) r u = T at *
                obtain ⟨bt, rfl⟩ : ∃ bt : ByteArray, T = bt.data.toList := ⟨⟨T.toArray⟩, rfl⟩
                rw [← ba_list bt] at HPR
                have HP := Lib.hid HPR
                have HCNT := Lib.hid hcnt
                have HBAD := Lib.hid hbad
                have HBK := Lib.hid hback
                rw [ba_len] at htl
                have HLS := Lib.hid hlen
                clear hpt hls64 hcnt hbad hback HPR hls hlen
                go_wp2_with fail
                with_reducible refine HP.out.mono ?_
                rintro e w6 ⟨rfl, C6⟩
                have HC6 := Lib.hid (HCW.out.step C6)
                have HAT6 := Lib.hid (HAT.out.chg0 C6)
                clear C6
                go_wp2_with fail
                go_loopg [11, 12] bt.size (fun g lv iv wr => ∃ k : Nat, k + g = bt.size ∧ iv = .int .i64 k ∧ lv = .int .i64 (((bt.data.toList.take k).count 10 : Nat) : Int) ∧ wr = w6)
                case atStart => exact ⟨0, by omega, rfl, rfl, rfl⟩
                case round =>
                  obtain ⟨k, hk, rfl, rfl, rfl⟩ := hrel
                  have HK := Lib.hid hk
                  have hkl : k ≤ bt.size := by omega
                  have hcl : ((bt.data.toList.take k).count 10 : Int) ≤ 200 := by
                    have h1 := List.count_le_length (a := (10 : UInt8)) (l := bt.data.toList.take k)
                    rw [List.length_take] at h1
                    omega
                  clear hk
                  by_cases hlt : k < bt.size
                  · have hat := ba_at bt k hlt
                    have HCT := Lib.hid (count_take hat)
                    have k0 : (0 : Int) ≤ k := by omega
                    have k1 : (k : Int) < bt.size := by omega
                    have q := byte10 bt[k]
                    cases hq : decide (bt[k] = 10)
                    · rw [hq] at q
                      have HN := Lib.hid (of_decide_eq_false hq)
                      clear hq hat
                      go_wp2_with fail
                      go_roundg (bt.size - (k + 1))
                      case measure => have := HK.out; omega
                      case rel => exact ⟨k + 1, by have := HK.out; omega, by go_num, by rw [HCT.out, if_neg HN.out, Nat.add_zero], rfl⟩
                    · rw [hq] at q
                      have HN := Lib.hid (of_decide_eq_true hq)
                      clear hq hat
                      go_wp2_with fail
                      go_roundg (bt.size - (k + 1))
                      case measure => have := HK.out; omega
                      case rel => exact ⟨k + 1, by have := HK.out; omega, by go_num, by rw [HCT.out, if_pos HN.out]; go_num, rfl⟩
                  · obtain rfl : bt.size = k := by omega
                    have hfull : (bt.data.toList.take bt.size).count 10 = if u = 0 then 1 else 2 := by
                      rw [List.take_of_length_le (by rw [ba_len]; exact Nat.le_refl _)]
                      exact HCNT.out
                    rw [hfull]
                    clear hfull hcl
                    have HPA := parse_any bt.data.toList wr (by rw [ba_len]; omega) (HL.out.chg0 HC6.out)
                    rw [← ba_list bt] at HPA
                    have HP1 := Lib.hid HPA
                    have l1 : ¬ 9223372036854775807 < 15 + bt.size := by omega
                    clear HPA
                    rcases Nat.eq_zero_or_pos u with hu0 | hu0
                    · subst hu0
                      rw [if_pos rfl]
                      go_wp2_with fail
                      with_reducible refine HP1.out.mono ?_
                      rintro e w7 ⟨v7, rfl, C7, l7, n7, ok7, q7, hp7, rfl, hA7, -⟩
                      rw [HBK.out] at hp7
                      cases hp7
                      obtain ⟨p7, c7, rfl⟩ := hA7.form
                      have HC7 := Lib.hid (HC6.out.step C7)
                      have HA7 := Lib.hid hA7
                      have HAT7 := Lib.hid (HAT6.out.chg0 C7)
                      clear C7 hA7
                      have HP2 := parse_any (T3 ++ bt.data.toList) w7 (by rw [List.length_append, ba_len]; show 15 + bt.size ≤ 100000; omega) (HL.out.chg0 HC7.out)
                      rw [bs_app, ← ba_list bt] at HP2
                      replace HP2 : Calls Tryd.prog 13 #[.string (⟨#[116, 105, 99, 107, 32, 120, 49, 48, 48, 48, 48, 48, 10, 35, 10]⟩ ++ bt)] w7 (RetV (ParseR w7 (T3 ++ bt.data.toList))) := HP2
                      have HP3 := Lib.hid HP2
                      clear HP2
                      go_wp2_with fail
                      with_reducible refine HP3.out.mono ?_
                      rintro e w8 ⟨v8, rfl, C8, l8, n8, ok8, q8, hp8, rfl, hA8, -⟩
                      rw [HBAD.out] at hp8
                      cases hp8
                      have HC8 := Lib.hid (HC7.out.step C8)
                      have HA8 := Lib.hid (HA7.out.chg0 C8)
                      have HAT8 := Lib.hid (HAT7.out.chg0 C8)
                      clear C8 hA8
                      go_wp2_with fail
                      refine (asame_any _ _ ls ls _ HA8.out HAT8.out (by have := HLS.out; omega) (by have := HLS.out; omega)).mono ?_
                      rintro e w9 ⟨rfl, C9⟩
                      rw [decide_eq_true (rfl : ls = ls)]
                      have HC9 := Lib.hid (HC8.out.step C9)
                      clear C9
                      go_wp2_with fail
                      go_ret
                      exact ⟨rfl, HC9.out⟩
                    · obtain ⟨u', rfl⟩ : ∃ u', u = u' + 1 := ⟨u - 1, by omega⟩
                      have t2 : decide ((0 : Int) < ((u' + 1 : Nat) : Int)) = true := by simp
                      have t3 : decide (0 < (u' : Int) + 1) = true := by rw [decide_eq_true_eq]; omega
                      rw [if_neg (by omega)]
                      go_wp2_with fail
                      with_reducible refine HP1.out.mono ?_
                      rintro e w7 ⟨v7, rfl, C7, l7, n7, ok7, q7, hp7, rfl, hA7, -⟩
                      rw [HBK.out] at hp7
                      cases hp7
                      obtain ⟨p7, c7, rfl⟩ := hA7.form
                      have HC7 := Lib.hid (HC6.out.step C7)
                      have HA7 := Lib.hid hA7
                      have HAT7 := Lib.hid (HAT6.out.chg0 C7)
                      clear C7 hA7
                      have HP2 := parse_any (T3 ++ bt.data.toList) w7 (by rw [List.length_append, ba_len]; show 15 + bt.size ≤ 100000; omega) (HL.out.chg0 HC7.out)
                      rw [bs_app, ← ba_list bt] at HP2
                      replace HP2 : Calls Tryd.prog 13 #[.string (⟨#[116, 105, 99, 107, 32, 120, 49, 48, 48, 48, 48, 48, 10, 35, 10]⟩ ++ bt)] w7 (RetV (ParseR w7 (T3 ++ bt.data.toList))) := HP2
                      have HP3 := Lib.hid HP2
                      clear HP2
                      go_wp2_with fail
                      with_reducible refine HP3.out.mono ?_
                      rintro e w8 ⟨v8, rfl, C8, l8, n8, ok8, q8, hp8, rfl, hA8, -⟩
                      rw [HBAD.out] at hp8
                      cases hp8
                      have HC8 := Lib.hid (HC7.out.step C8)
                      have HA8 := Lib.hid (HA7.out.chg0 C8)
                      have HAT8 := Lib.hid (HAT7.out.chg0 C8)
                      clear C8 hA8
                      go_wp2_with fail
                      refine (asame_any _ _ ls ls _ HA8.out HAT8.out (by have := HLS.out; omega) (by have := HLS.out; omega)).mono ?_
                      rintro e w9 ⟨rfl, C9⟩
                      rw [decide_eq_true (rfl : ls = ls)]
                      have HC9 := Lib.hid (HC8.out.step C9)
                      clear C9
                      go_wp2_with fail
                      go_ret
                      exact ⟨rfl, HC9.out⟩
      · rw [hab] at k3
        clear hab
        go_wp2_with fail
        go_ret
        exact ⟨rfl, HC4.out⟩
    · rw [hqb] at qb
      clear hqb
      go_wp2_with fail
      go_ret
      exact ⟨rfl, HC4.out⟩
  · rw [hqa] at qa
    clear hqa
    go_wp2_with fail
    go_ret
    exact ⟨rfl, HC3.out⟩
end Go.Proofs.YtfidiiifcmmffaaDoor
