/- The reference's Lines: each line without its remark and without blanks at its ends. No condition. -/
import Derived.Test.YtfidiiifcmmffaaGreatDoorAsm30
import Derived.Test.YtfidiiifcmmffaaGreatDoorAsmP9
set_option linter.unusedVariables false
set_option linter.unusedSimpArgs false
namespace Go.Proofs.YtfidiiifcmmffaaGreatDoor
open Go.RowKit Go.RR
open Go.Lib (trimB trimLeftB trimRightB)
theorem StrInfo : (Tryz.prog.info? 9).map (fun i => (i.zero, i.size, i.bytes)) = some (some (.string ⟨#[]⟩), 1, 16) := by kernel_rfl
theorem ex_mid (s : Bs) (a k : Nat) : (ByteArray.mk s.toArray).extract a k = ⟨((s.drop a).take (k - a)).toArray⟩ := by
  apply ByteArray.ext
  rw [ByteArray.data_extract]
  apply Array.ext'
  simp
theorem byteD (c d : UInt8) : ((c.toNat : Int) == (d.toNat : Int)) = decide (c = d) := by
  by_cases h : c = d
  · rw [h]; simp
  · rw [decide_eq_false h, beq_eq_false_iff_ne]
    intro e
    exact h (UInt8.toNat_inj.1 (by omega))
set_option maxHeartbeats 8000000 in
set_option maxRecDepth 100000 in
theorem rlines_any (s : Bs) (w : World) (hl : s.length ≤ 90000) : Calls Tryz.prog 39 #[.string ⟨s.toArray⟩] w (RetSl fun v w' => Own w' (fun k => w.heap.size ≤ k) 9 1 v ((wordsF 10 s).map stripF).length (((wordsF 10 s).map stripF).map bsv) ∧ Chg NoB w w') := by
  obtain ⟨i0, hi0, hz0, hz1, hz2⟩ := info_parts StrInfo
  go_enter Tryz.func39, Tryz.ntmps39
  go_wp2_with fail
  go_loopg [3, 4, 5] (s.length + 1) (fun gk ov av iv wr => ∃ (k a : Nat) (W : List Bs), k + gk = s.length + 1 ∧ av = .int .i64 a ∧ iv = .int .i64 k ∧ Chg NoB w wr ∧ Own wr (fun k => w.heap.size ≤ k) 9 1 ov W.length (W.map bsv) ∧ W.length ≤ k ∧
    ((k ≤ s.length ∧ a ≤ k ∧ (wordsF 10 s).map stripF = W ++ (wordsF 10 (s.drop a)).map stripF ∧ (10 : UInt8) ∉ (s.drop a).take (k - a)) ∨ (k = s.length + 1 ∧ (wordsF 10 s).map stripF = W)))
  case atStart => exact ⟨0, 0, [], by omega, rfl, rfl, Chg.refl _ _, Own.nil _ _ _ _, Nat.le_refl _, .inl ⟨by omega, by omega, rfl, by simp⟩⟩
  case round =>
    obtain ⟨k, a, W, hk, rfl, rfl, hC, hO, hW, hcase⟩ := hrel
    rename World => wr
    obtain ⟨po, co, rfl⟩ := hO.form
    have HK := Lib.hid hk
    have HC := Lib.hid hC
    have HO := Lib.hid hO
    have hk0 : (0 : Int) ≤ k := by omega
    clear hk hC hO
    rcases hcase with ⟨h1, h2, h3, h4⟩ | ⟨h1, h3⟩
    · have H3 := Lib.hid h3
      have H4 := Lib.hid h4
      have a0 : (0 : Int) ≤ a := by omega
      have a1 : (a : Int) ≤ k := by omega
      have a2 : (k : Int) ≤ s.length := by omega
      clear h3 h4
      have HW1 := Lib.hid hW
      have k63 : (W.length : Int) + 1 ≤ 9223372036854775807 := by omega
      by_cases hlt : k < s.length
      · obtain ⟨c, hc⟩ : ∃ c, s[k]? = some c := ⟨s[k], by simp [hlt]⟩
        obtain ⟨hsz, hv⟩ := byte_at hc
        have t1 : ((c.toNat : Int) == 10) = decide (c = 10) := byteD c 10
        have t2 : ((c.toNat : Int) != 10) = !decide (c = 10) := by rw [bne, t1]
        cases hb : decide (c = 10)
        · rw [hb] at t1 t2
          have HN := Lib.hid (w_no h2 hc H4.out (of_decide_eq_false hb))
          clear hc hb
          go_wp2_with fail
          go_roundg (s.length + 1 - (k + 1))
          case measure => have := HK.out; omega
          case rel => exact ⟨k + 1, a, W, by have := HK.out; omega, rfl, by go_num, HC.out, HO.out, by have := HW1.out; omega, .inl ⟨by omega, by omega, H3.out, HN.out⟩⟩
        · rw [hb] at t1 t2
          have HN := Lib.hid (w_next h2 hc H4.out (of_decide_eq_true hb))
          clear hc hb
          have HKS := Lib.hid hlt
          obtain ⟨T, hT⟩ : ∃ T, (s.drop a).take (k - a) = T := ⟨_, rfl⟩
          obtain ⟨U, hU⟩ : ∃ U, hashF T = U := ⟨_, rfl⟩
          obtain ⟨F, hF⟩ : ∃ F, trimB U 32 = F := ⟨_, rfl⟩
          have HF := Lib.hid hF
          have HU := Lib.hid hU
          have HFS : Hid (stripF ((s.drop a).take (k - a)) = F) := Lib.hid (by rw [hT, ← hF, ← hU]; rfl)
          have xm := ex_mid s a k
          rw [hT] at xm
          have hTl : T.length ≤ s.length := by rw [← hT, List.length_take, List.length_drop]; omega
          have hUl : U.length ≤ s.length := Nat.le_trans (by rw [← hU]; exact (List.takeWhile_sublist _).length_le) hTl
          clear hT hU hF
          go_upto_block 2 with fail
          go_cut [6, 7] (fun lv kv wx => lv = .string ⟨U.toArray⟩ ∧ wr = wx)
          case first =>
            go_wp2_with fail
            go_loopg [6, 7] (T.length + 1) (fun g lv kv wx => ∃ (q : Nat) (l : Bs), q + g = T.length + 1 ∧ lv = .string ⟨l.toArray⟩ ∧ kv = .int .i64 q ∧ wr = wx ∧ ((T = l ∧ q ≤ T.length ∧ (35 : UInt8) ∉ T.take q) ∨ (U = l ∧ l.length < q)))
            case atStart => exact ⟨0, T, by omega, rfl, rfl, rfl, .inl ⟨rfl, Nat.zero_le _, by simp⟩⟩
            case round =>
              obtain ⟨q, l, hq, rfl, rfl, rfl, hcase⟩ := hrel
              have HQ := Lib.hid hq
              have q0 : (0 : Int) ≤ q := by omega
              clear hq
              rcases hcase with ⟨rfl, h1, h2⟩ | ⟨rfl, h1⟩
              · have H2 := Lib.hid h2
                clear h2
                by_cases hlt : q < T.length
                · obtain ⟨c, hc⟩ : ∃ c, T[q]? = some c := ⟨T[q], by simp [hlt]⟩
                  obtain ⟨hsz, hv⟩ := byte_at hc
                  have t0 : ((c.toNat : Int) == 35) = decide (c = 35) := byteD c 35
                  have HCC := Lib.hid hc
                  cases hb : decide (c = 35)
                  · rw [hb] at t0
                    have HN := Lib.hid (hash_no H2.out hc (of_decide_eq_false hb))
                    clear hc hb
                    go_wp2_with fail
                    go_roundg (T.length + 1 - (q + 1))
                    case measure => have := HQ.out; omega
                    case rel => exact ⟨q + 1, T, by have := HQ.out; omega, rfl, by go_num, rfl, .inl ⟨rfl, by omega, HN.out⟩⟩
                  · rw [hb] at t0
                    have hq1 := hash_at H2.out (by rw [HCC.out, of_decide_eq_true hb])
                    rw [HU.out] at hq1
                    have x1 := ex_take T q
                    rw [← hq1] at x1
                    have HLQ : Hid (U.length < q + 1) := Lib.hid (by rw [hq1, List.length_take]; omega)
                    clear hc hb hq1
                    go_wp2_with fail
                    go_roundg (T.length + 1 - (q + 1))
                    case measure => have := HQ.out; omega
                    case rel => exact ⟨q + 1, U, by have := HQ.out; omega, rfl, by go_num, rfl, .inr ⟨rfl, HLQ.out⟩⟩
                · obtain rfl : q = T.length := by omega
                  have HN : Hid (T = U) := Lib.hid (by rw [← HU.out]; exact (hash_all (by have := H2.out; rwa [List.take_length] at this)).symm)
                  go_wp2_with fail
                  go_meet
                  exact ⟨by rw [← HN.out], rfl⟩
              · have t1 : ¬ ((q : Int) < U.length) := by omega
                have t2 : decide ((q : Int) < U.length) = false := decide_eq_false t1
                have t3 : decide (q < U.length) = false := decide_eq_false (by omega)
                go_wp2_with fail
                go_meet
                exact ⟨rfl, rfl⟩
          case rest =>
            obtain ⟨rfl, rfl⟩ := hcut
            go_upto_block 4 with fail
            go_cut [6] (fun lv wx => ∃ l : Bs, lv = .string ⟨l.toArray⟩ ∧ wr = wx ∧ trimB l 32 = trimB U 32 ∧ l.head? ≠ some 32 ∧ l.length ≤ U.length)
            case first =>
              go_wp2_with fail
              go_loopg [6] U.length (fun g lv wx => ∃ l : Bs, l.length = g ∧ l.length ≤ U.length ∧ lv = .string ⟨l.toArray⟩ ∧ wr = wx ∧ trimB l 32 = trimB U 32)
              case atStart => exact ⟨U, rfl, Nat.le_refl _, rfl, rfl, rfl⟩
              case round =>
                obtain ⟨l, hg, hle, rfl, rfl, ht⟩ := hrel
                have HT := Lib.hid ht
                have HG := Lib.hid hg
                clear ht hg
                cases l with
                | nil =>
                  go_wp2_with fail
                  go_meet
                  exact ⟨[], rfl, rfl, HT.out, by simp, by simp⟩
                | cons c r =>
                  have e1 := bl_list (c :: r)
                  obtain ⟨hsz, hv⟩ := byte_at (s := c :: r) (j := 0) rfl
                  have t0 : ((c.toNat : Int) == 32) = decide (c = 32) := byteD c 32
                  cases hb : decide (c = 32)
                  · rw [hb] at t0
                    have HB := Lib.hid hb
                    clear hb
                    go_wp2_with fail
                    go_meet
                    exact ⟨c :: r, rfl, rfl, HT.out, by simp; exact of_decide_eq_false HB.out, hle⟩
                  · rw [hb] at t0
                    have HB := Lib.hid hb
                    have x1 := ex_drop (c :: r) 1
                    simp only [List.drop_one, List.tail_cons, List.length_cons] at x1
                    clear hb
                    go_wp2_with fail
                    go_roundg r.length
                    case measure => have := HG.out; simp at this; omega
                    case rel => exact ⟨r, rfl, by simp at hle; omega, rfl, rfl, by rw [← HT.out, of_decide_eq_true HB.out, trim_head]⟩
            case rest =>
              obtain ⟨V, rfl, rfl, hV, hVh, hVl⟩ := hcut
              have HV := Lib.hid hV
              have HVH := Lib.hid hVh
              clear hV hVh
              go_upto_block 6 with fail
              go_cut [6] (fun lv wx => lv = .string ⟨F.toArray⟩ ∧ wr = wx)
              case first =>
                go_wp2_with fail
                go_loopg [6] V.length (fun g lv wx => ∃ l : Bs, l.length = g ∧ l.length ≤ U.length ∧ lv = .string ⟨l.toArray⟩ ∧ wr = wx ∧ trimB l 32 = trimB U 32 ∧ l.head? ≠ some 32)
                case atStart => exact ⟨V, rfl, hVl, rfl, rfl, HV.out, HVH.out⟩
                case round =>
                  obtain ⟨l, hg, hle, rfl, rfl, ht, hh⟩ := hrel
                  have HT := Lib.hid ht
                  have HG := Lib.hid hg
                  have HH := Lib.hid hh
                  clear ht hg hh
                  by_cases hne : l = []
                  · subst hne
                    go_wp2_with fail
                    go_meet
                    exact ⟨by rw [← HF.out, ← HT.out]; rfl, rfl⟩
                  · obtain ⟨r, c, rfl⟩ := snoc_of hne
                    obtain ⟨m, hm⟩ : ∃ m, r ++ [c] = m := ⟨_, rfl⟩
                    have hml : m.length = r.length + 1 := by rw [← hm]; simp
                    have hc : m[r.length]? = some c := by rw [← hm]; simp
                    have x1 := ex_take m r.length
                    rw [show m.take r.length = r by rw [← hm]; simp] at x1
                    rw [hm] at HT HG HH hle hne
                    obtain ⟨hsz, hv⟩ := byte_at hc
                    have HM := Lib.hid hm
                    have e1 := bl_list m
                    have e2 : (m == ([] : Bs)) = false := by rw [beq_eq_false_iff_ne]; exact hne
                    have e3 : m.isEmpty = false := by rw [List.isEmpty_eq_false_iff]; exact hne
                    have e4 : (m != ([] : Bs)) = true := by rw [bne, e2]; rfl
                    have n1 : (m.length : Int) - 1 = r.length := by omega
                    have t0 : ((c.toNat : Int) == 32) = decide (c = 32) := byteD c 32
                    rw [hm]
                    clear hm hc
                    cases hb : decide (c = 32)
                    · rw [hb] at t0
                      have HB := Lib.hid hb
                      clear hb
                      go_wp2_with fail
                      go_meet
                      exact ⟨by rw [← HF.out, ← HT.out, trim_ends HH.out (by rw [← HM.out]; simp; exact of_decide_eq_false HB.out)], rfl⟩
                    · rw [hb] at t0
                      have HB := Lib.hid hb
                      clear hb
                      go_wp2_with fail
                      go_roundg r.length
                      case measure => have := HG.out; omega
                      case rel => exact ⟨r, rfl, by omega, rfl, rfl, by rw [← HT.out, ← HM.out, of_decide_eq_true HB.out, trim_last], head_init (c := c) (by rw [HM.out]; exact HH.out)⟩
              case rest =>
                obtain ⟨rfl, rfl⟩ := hcut
                have SX : Sl (wr.alloc (.cells #[.string ⟨F.toArray⟩] 9)) (fun k => k = wr.heap.size) 1 (.slice (some ⟨wr.heap.size, 0, none⟩) 1 1) 1 [.string ⟨F.toArray⟩] := Sl.fresh wr [.string ⟨F.toArray⟩] 9 1 rfl
                have OX := HO.out.chg0 ((Chg.refl NoB wr).alloc (.cells #[.string ⟨F.toArray⟩] 9))
                have one : ∀ u ∈ [Value.string ⟨F.toArray⟩], u.oneCell' = true := by simp [Value.oneCell']
                have b1 : W.length + 1 ≤ maxLen := by have := HW1.out; unfold maxLen; omega
                have b2 : (W.length + 1) * 16 ≤ 140737488355328 := by have := HW1.out; omega
                go_wp2_with (at_builtin; go_must (refine wpList_app rfl _ _ 47 rfl i0 _ 16 Tryz.underlying47 hi0 hz0 hz1 hz2 rfl rfl OX _ 1 _ rfl SX one b1 b2 ?_))
                intro v2 w2 o2 g2 _
                have HO2 : Hid (Own w2 (fun k => w.heap.size ≤ k) 9 1 v2 (W ++ [F]).length ((W ++ [F]).map bsv)) := Lib.hid (by
                  rw [List.length_append, List.map_append]
                  exact o2.mono fun k hk => by
                    rcases hk with hk | hk
                    · exact (HO.out.ownBlock k hk).1
                    · subst hk; have := HC.out.size; show w.heap.size ≤ wr.heap.size + 1; omega)
                have HC2 : Hid (Chg NoB w w2) := Lib.hid ((HC.out.alloc (.cells #[.string ⟨F.toArray⟩] 9)).trans (grown_chg (S := fun k => w.heap.size ≤ k) g2 fun k hk => (HO.out.ownBlock k hk).1) (fun k h1 h2 => by omega))
                obtain ⟨p2, c2, rfl⟩ := o2.form
                clear SX OX one b1 b2 o2 g2
                go_wp2_with fail
                go_roundg (s.length + 1 - (k + 1))
                case measure => have := HK.out; omega
                case rel => exact ⟨k + 1, k + 1, W ++ [F], by have := HK.out; omega, by go_num, by go_num, HC2.out, HO2.out, by have := HW1.out; rw [List.length_append, List.length_singleton]; omega, .inl ⟨HKS.out, Nat.le_refl _, by rw [H3.out, HN.out, List.map_cons, HFS.out, List.append_assoc]; rfl, by simp⟩⟩
      · obtain rfl : k = s.length := by omega
        have HN := Lib.hid (w_end H4.out)
        clear hlt
        obtain ⟨T, hT⟩ : ∃ T, (s.drop a).take (s.length - a) = T := ⟨_, rfl⟩
        obtain ⟨U, hU⟩ : ∃ U, hashF T = U := ⟨_, rfl⟩
        obtain ⟨F, hF⟩ : ∃ F, trimB U 32 = F := ⟨_, rfl⟩
        have HF := Lib.hid hF
        have HU := Lib.hid hU
        have HFS : Hid (stripF ((s.drop a).take (s.length - a)) = F) := Lib.hid (by rw [hT, ← hF, ← hU]; rfl)
        have xm := ex_mid s a s.length
        rw [hT] at xm
        have hTl : T.length ≤ s.length := by rw [← hT, List.length_take, List.length_drop]; omega
        have hUl : U.length ≤ s.length := Nat.le_trans (by rw [← hU]; exact (List.takeWhile_sublist _).length_le) hTl
        clear hT hU hF
        go_upto_block 2 with fail
        go_cut [6, 7] (fun lv kv wx => lv = .string ⟨U.toArray⟩ ∧ wr = wx)
        case first =>
          go_wp2_with fail
          go_loopg [6, 7] (T.length + 1) (fun g lv kv wx => ∃ (q : Nat) (l : Bs), q + g = T.length + 1 ∧ lv = .string ⟨l.toArray⟩ ∧ kv = .int .i64 q ∧ wr = wx ∧ ((T = l ∧ q ≤ T.length ∧ (35 : UInt8) ∉ T.take q) ∨ (U = l ∧ l.length < q)))
          case atStart => exact ⟨0, T, by omega, rfl, rfl, rfl, .inl ⟨rfl, Nat.zero_le _, by simp⟩⟩
          case round =>
            obtain ⟨q, l, hq, rfl, rfl, rfl, hcase⟩ := hrel
            have HQ := Lib.hid hq
            have q0 : (0 : Int) ≤ q := by omega
            clear hq
            rcases hcase with ⟨rfl, h1, h2⟩ | ⟨rfl, h1⟩
            · have H2 := Lib.hid h2
              clear h2
              by_cases hlt : q < T.length
              · obtain ⟨c, hc⟩ : ∃ c, T[q]? = some c := ⟨T[q], by simp [hlt]⟩
                obtain ⟨hsz, hv⟩ := byte_at hc
                have t0 : ((c.toNat : Int) == 35) = decide (c = 35) := byteD c 35
                have HCC := Lib.hid hc
                cases hb : decide (c = 35)
                · rw [hb] at t0
                  have HN := Lib.hid (hash_no H2.out hc (of_decide_eq_false hb))
                  clear hc hb
                  go_wp2_with fail
                  go_roundg (T.length + 1 - (q + 1))
                  case measure => have := HQ.out; omega
                  case rel => exact ⟨q + 1, T, by have := HQ.out; omega, rfl, by go_num, rfl, .inl ⟨rfl, by omega, HN.out⟩⟩
                · rw [hb] at t0
                  have hq1 := hash_at H2.out (by rw [HCC.out, of_decide_eq_true hb])
                  rw [HU.out] at hq1
                  have x1 := ex_take T q
                  rw [← hq1] at x1
                  have HLQ : Hid (U.length < q + 1) := Lib.hid (by rw [hq1, List.length_take]; omega)
                  clear hc hb hq1
                  go_wp2_with fail
                  go_roundg (T.length + 1 - (q + 1))
                  case measure => have := HQ.out; omega
                  case rel => exact ⟨q + 1, U, by have := HQ.out; omega, rfl, by go_num, rfl, .inr ⟨rfl, HLQ.out⟩⟩
              · obtain rfl : q = T.length := by omega
                have HN : Hid (T = U) := Lib.hid (by rw [← HU.out]; exact (hash_all (by have := H2.out; rwa [List.take_length] at this)).symm)
                go_wp2_with fail
                go_meet
                exact ⟨by rw [← HN.out], rfl⟩
            · have t1 : ¬ ((q : Int) < U.length) := by omega
              have t2 : decide ((q : Int) < U.length) = false := decide_eq_false t1
              have t3 : decide (q < U.length) = false := decide_eq_false (by omega)
              go_wp2_with fail
              go_meet
              exact ⟨rfl, rfl⟩
        case rest =>
          obtain ⟨rfl, rfl⟩ := hcut
          go_upto_block 4 with fail
          go_cut [6] (fun lv wx => ∃ l : Bs, lv = .string ⟨l.toArray⟩ ∧ wr = wx ∧ trimB l 32 = trimB U 32 ∧ l.head? ≠ some 32 ∧ l.length ≤ U.length)
          case first =>
            go_wp2_with fail
            go_loopg [6] U.length (fun g lv wx => ∃ l : Bs, l.length = g ∧ l.length ≤ U.length ∧ lv = .string ⟨l.toArray⟩ ∧ wr = wx ∧ trimB l 32 = trimB U 32)
            case atStart => exact ⟨U, rfl, Nat.le_refl _, rfl, rfl, rfl⟩
            case round =>
              obtain ⟨l, hg, hle, rfl, rfl, ht⟩ := hrel
              have HT := Lib.hid ht
              have HG := Lib.hid hg
              clear ht hg
              cases l with
              | nil =>
                go_wp2_with fail
                go_meet
                exact ⟨[], rfl, rfl, HT.out, by simp, by simp⟩
              | cons c r =>
                have e1 := bl_list (c :: r)
                obtain ⟨hsz, hv⟩ := byte_at (s := c :: r) (j := 0) rfl
                have t0 : ((c.toNat : Int) == 32) = decide (c = 32) := byteD c 32
                cases hb : decide (c = 32)
                · rw [hb] at t0
                  have HB := Lib.hid hb
                  clear hb
                  go_wp2_with fail
                  go_meet
                  exact ⟨c :: r, rfl, rfl, HT.out, by simp; exact of_decide_eq_false HB.out, hle⟩
                · rw [hb] at t0
                  have HB := Lib.hid hb
                  have x1 := ex_drop (c :: r) 1
                  simp only [List.drop_one, List.tail_cons, List.length_cons] at x1
                  clear hb
                  go_wp2_with fail
                  go_roundg r.length
                  case measure => have := HG.out; simp at this; omega
                  case rel => exact ⟨r, rfl, by simp at hle; omega, rfl, rfl, by rw [← HT.out, of_decide_eq_true HB.out, trim_head]⟩
          case rest =>
            obtain ⟨V, rfl, rfl, hV, hVh, hVl⟩ := hcut
            have HV := Lib.hid hV
            have HVH := Lib.hid hVh
            clear hV hVh
            go_upto_block 6 with fail
            go_cut [6] (fun lv wx => lv = .string ⟨F.toArray⟩ ∧ wr = wx)
            case first =>
              go_wp2_with fail
              go_loopg [6] V.length (fun g lv wx => ∃ l : Bs, l.length = g ∧ l.length ≤ U.length ∧ lv = .string ⟨l.toArray⟩ ∧ wr = wx ∧ trimB l 32 = trimB U 32 ∧ l.head? ≠ some 32)
              case atStart => exact ⟨V, rfl, hVl, rfl, rfl, HV.out, HVH.out⟩
              case round =>
                obtain ⟨l, hg, hle, rfl, rfl, ht, hh⟩ := hrel
                have HT := Lib.hid ht
                have HG := Lib.hid hg
                have HH := Lib.hid hh
                clear ht hg hh
                by_cases hne : l = []
                · subst hne
                  go_wp2_with fail
                  go_meet
                  exact ⟨by rw [← HF.out, ← HT.out]; rfl, rfl⟩
                · obtain ⟨r, c, rfl⟩ := snoc_of hne
                  obtain ⟨m, hm⟩ : ∃ m, r ++ [c] = m := ⟨_, rfl⟩
                  have hml : m.length = r.length + 1 := by rw [← hm]; simp
                  have hc : m[r.length]? = some c := by rw [← hm]; simp
                  have x1 := ex_take m r.length
                  rw [show m.take r.length = r by rw [← hm]; simp] at x1
                  rw [hm] at HT HG HH hle hne
                  obtain ⟨hsz, hv⟩ := byte_at hc
                  have HM := Lib.hid hm
                  have e1 := bl_list m
                  have e2 : (m == ([] : Bs)) = false := by rw [beq_eq_false_iff_ne]; exact hne
                  have e3 : m.isEmpty = false := by rw [List.isEmpty_eq_false_iff]; exact hne
                  have e4 : (m != ([] : Bs)) = true := by rw [bne, e2]; rfl
                  have n1 : (m.length : Int) - 1 = r.length := by omega
                  have t0 : ((c.toNat : Int) == 32) = decide (c = 32) := byteD c 32
                  rw [hm]
                  clear hm hc
                  cases hb : decide (c = 32)
                  · rw [hb] at t0
                    have HB := Lib.hid hb
                    clear hb
                    go_wp2_with fail
                    go_meet
                    exact ⟨by rw [← HF.out, ← HT.out, trim_ends HH.out (by rw [← HM.out]; simp; exact of_decide_eq_false HB.out)], rfl⟩
                  · rw [hb] at t0
                    have HB := Lib.hid hb
                    clear hb
                    go_wp2_with fail
                    go_roundg r.length
                    case measure => have := HG.out; omega
                    case rel => exact ⟨r, rfl, by omega, rfl, rfl, by rw [← HT.out, ← HM.out, of_decide_eq_true HB.out, trim_last], head_init (c := c) (by rw [HM.out]; exact HH.out)⟩
            case rest =>
              obtain ⟨rfl, rfl⟩ := hcut
              have SX : Sl (wr.alloc (.cells #[.string ⟨F.toArray⟩] 9)) (fun k => k = wr.heap.size) 1 (.slice (some ⟨wr.heap.size, 0, none⟩) 1 1) 1 [.string ⟨F.toArray⟩] := Sl.fresh wr [.string ⟨F.toArray⟩] 9 1 rfl
              have OX := HO.out.chg0 ((Chg.refl NoB wr).alloc (.cells #[.string ⟨F.toArray⟩] 9))
              have one : ∀ u ∈ [Value.string ⟨F.toArray⟩], u.oneCell' = true := by simp [Value.oneCell']
              have b1 : W.length + 1 ≤ maxLen := by have := HW1.out; unfold maxLen; omega
              have b2 : (W.length + 1) * 16 ≤ 140737488355328 := by have := HW1.out; omega
              go_wp2_with (at_builtin; go_must (refine wpList_app rfl _ _ 47 rfl i0 _ 16 Tryz.underlying47 hi0 hz0 hz1 hz2 rfl rfl OX _ 1 _ rfl SX one b1 b2 ?_))
              intro v2 w2 o2 g2 _
              have HO2 : Hid (Own w2 (fun k => w.heap.size ≤ k) 9 1 v2 (W ++ [F]).length ((W ++ [F]).map bsv)) := Lib.hid (by
                rw [List.length_append, List.map_append]
                exact o2.mono fun k hk => by
                  rcases hk with hk | hk
                  · exact (HO.out.ownBlock k hk).1
                  · subst hk; have := HC.out.size; show w.heap.size ≤ wr.heap.size + 1; omega)
              have HC2 : Hid (Chg NoB w w2) := Lib.hid ((HC.out.alloc (.cells #[.string ⟨F.toArray⟩] 9)).trans (grown_chg (S := fun k => w.heap.size ≤ k) g2 fun k hk => (HO.out.ownBlock k hk).1) (fun k h1 h2 => by omega))
              obtain ⟨p2, c2, rfl⟩ := o2.form
              clear SX OX one b1 b2 o2 g2
              go_wp2_with fail
              go_roundg 0
              case measure => have := HK.out; omega
              case rel => exact ⟨s.length + 1, s.length + 1, W ++ [F], rfl, by go_num, by go_num, HC2.out, HO2.out, by have := HW1.out; rw [List.length_append, List.length_singleton]; omega, .inr ⟨rfl, by rw [H3.out, HN.out, List.map_cons, HFS.out]; rfl⟩⟩
    · subst h1
      subst h3
      have t2 : decide (((s.length + 1 : Nat) : Int) ≤ s.length) = false := by simp; omega
      go_wp2_with fail
      go_ret
      exact ⟨_, rfl, HO.out, HC.out⟩
end Go.Proofs.YtfidiiifcmmffaaGreatDoor
