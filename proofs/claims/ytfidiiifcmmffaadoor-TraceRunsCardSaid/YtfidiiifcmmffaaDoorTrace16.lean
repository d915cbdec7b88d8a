/- A script's text, by the reference. No condition. -/
import Derived.Test.YtfidiiifcmmffaaDoorTrace12
import Derived.Test.YtfidiiifcmmffaaDoorTrace15
import Derived.Test.YtfidiiifcmmffaaDoorTraceP5
set_option linter.unusedVariables false
set_option linter.unusedSimpArgs false
namespace Go.Proofs.YtfidiiifcmmffaaDoor
open Go.RowKit Go.RR

theorem actF_len {a : Ac} (h1 : i64 a.2.1) (h2 : i64 a.2.2) : (actF a).length ≤ 51 := by
  cases h : wordsOf a with
  | none => unfold actF; rw [h]; simp
  | some ws =>
    obtain ⟨k, hk, e1, rfl, z2, z1⟩ := wordsOf_form h
    have e : actF a = Go.Lib.join (nameF k :: ([a.2.1, a.2.2].take (cntF k)).map Go.Lib.itoa) [32] := by unfold actF; rw [h]
    have hn := name_len hk
    have hc := cnt_le hk
    have l1 := itoa_len h1
    have l2 := itoa_len h2
    rw [e]
    match cntF k, hc with
    | 0, _ => show (Go.Lib.join [nameF k] [32]).length ≤ 51; rw [join1]; omega
    | 1, _ => show (Go.Lib.join [nameF k, Go.Lib.itoa a.2.1] [32]).length ≤ 51; rw [join2]; omega
    | 2, _ => show (Go.Lib.join [nameF k, Go.Lib.itoa a.2.1, Go.Lib.itoa a.2.2] [32]).length ≤ 51; rw [join3]; omega
theorem refG_cons_none {a : Ac} {l : List Ac} {n : Nat} (h : actF a = []) : refG (a :: l) n = none := by rw [refG, if_pos h]
theorem refG_cons_on {a : Ac} {l : List Ac} {n : Nat} (h : actF a ≠ []) (h2 : l.head? = some a ∧ n + 1 < 100000) : refG (a :: l) n = refG l (n + 1) := by rw [refG, if_neg h, if_pos h2]
theorem refG_cons_out {a : Ac} {l : List Ac} {n : Nat} (h : actF a ≠ []) (h2 : ¬ (l.head? = some a ∧ n + 1 < 100000)) : refG (a :: l) n = (refG l 0).map (fun t => lineT a (n + 1) ++ 10 :: t) := by
  rw [refG, if_neg h, if_neg h2]
  cases refG l 0 <;> rfl
theorem actB (a : Ac) : (actF a == ([] : Bs)) = decide (actF a = []) := by
  by_cases h : actF a = []
  · rw [h]; rfl
  · rw [decide_eq_false h, beq_eq_false_iff_ne]; exact h
theorem ba_assoc (a b c : ByteArray) : a ++ b ++ c = a ++ (b ++ c) := by
  apply ByteArray.ext; simp
theorem ba_assoc4 (t a x n e : ByteArray) : t ++ a ++ (x ++ n) ++ e = t ++ (a ++ (x ++ n) ++ e) := by
  simp only [ba_assoc]
theorem headD (l : List Ac) (k : Nat) : (l.drop (k + 1)).head? = l[k + 1]? := by rw [List.head?_drop]
set_option maxHeartbeats 4000000 in
set_option maxRecDepth 100000 in
theorem rprint_any (v : Value) (l : List Ac) (w : World) (hI : AAt w v l) (hl : l.length ≤ 5000) (hi : ∀ a ∈ l, i64A a) : Calls Tryd.prog 12 #[v] w (RetW (.string ⟨((refG l 0).getD []).toArray⟩) fun w' => Chg NoB w w') := by
  obtain ⟨p, cap, rfl⟩ := hI.form
  have HI := Lib.hid hI
  have HA := Lib.hid hi
  clear hI hi
  go_enter Tryd.func12, Tryd.ntmps12
  go_wp2_with fail
  go_loopg [3, 4, 9, 5, 6] l.length (fun g sv nv ix _ _ wr => ∃ (k n : Nat) (t : Bs), k + g = l.length ∧ sv = .string ⟨t.toArray⟩ ∧ nv = .int .i64 n ∧ ix = .int .i64 k ∧ n ≤ k ∧ t.length ≤ 100 * k ∧ refG l 0 = (refG (l.drop k) n).map (fun r => t ++ r) ∧ Chg NoB w wr)
  case atStart => exact ⟨0, 0, [], by omega, rfl, rfl, rfl, Nat.le_refl _, by simp, by rw [List.drop_zero]; cases refG l 0 <;> rfl, Chg.refl _ _⟩
  case round =>
    obtain ⟨k, n, t, hk, rfl, rfl, rfl, hnk, ht, hg, hC⟩ := hrel
    rename World => wr
    have HK := Lib.hid hk
    have HG := Lib.hid hg
    have HC := Lib.hid hC
    have hkl : k ≤ l.length := by omega
    clear hk hg hC
    by_cases hlt : k < l.length
    · obtain ⟨a, ha⟩ : ∃ a, l[k]? = some a := ⟨l[k], by simp [hlt]⟩
      have HD : Hid (l.drop k = a :: l.drop (k + 1)) := Lib.hid (by
        obtain ⟨h1, h2⟩ := List.getElem?_eq_some_iff.1 ha
        rw [← h2, List.drop_eq_getElem_cons h1])
      obtain ⟨hcap, g, of, rfl, hgw, x0, x1, x2⟩ := (HI.out.chg0 HC.out).at ha
      have hgw0 : Hid (g < w.heap.size) := Lib.hid (by obtain ⟨-, g2, of2, e2, h2, -⟩ := HI.out.at ha; cases e2; exact h2)
      have hai := HA.out a (List.mem_of_getElem? ha)
      have hal := actF_len hai.2.1 hai.2.2
      have k0 : (0 : Int) ≤ k := by omega
      have k1 : (k : Int) < l.length := by omega
      have HAC := Lib.hid fun w => ract_any a.1 a.2.1 a.2.2 w hai.2.1 hai.2.2 hai.1
      have HHA := Lib.hid ha
      have HAI := Lib.hid hai
      have q := actB a
      obtain ⟨ka, xa, ya⟩ := a
      simp only at x0 x1 x2 HAC
      have HB := Lib.hid (Blk.new wr #[.int .i64 ka, .int .i64 xa, .int .i64 ya] 23)
      have HCN := Lib.hid (HC.out.alloc (.cells #[.int .i64 ka, .int .i64 xa, .int .i64 ya] 23))
      have b0 := HB.out.cell' (i := 0) (v := .int .i64 ka) rfl
      have b1 := HB.out.cell' (i := 1) (v := .int .i64 xa) rfl
      have b2 := HB.out.cell' (i := 2) (v := .int .i64 ya) rfl
      have HL := Lib.hid (And.intro hal (And.intro hnk ht))
      have nb : (n : Int) ≤ 5000 ∧ (0 : Int) ≤ n := by omega
      clear ha hai hal hnk ht
      cases hq : decide (actF (ka, xa, ya) = [])
      · rw [hq] at q
        have HNE := Lib.hid (of_decide_eq_false hq)
        clear hq
        go_wp2_with fail
        with_reducible refine (HAC.out _).mono ?_
        rintro e w2 ⟨rfl, C2⟩
        have HC2 := Lib.hid (HCN.out.step C2)
        have HB2 := Lib.hid (C2.blk0 HB.out)
        clear C2 b0 b1 b2 x0 x1 x2
        go_wp2_with fail
        have b0 := HB2.out.cell' (i := 0) (v := .int .i64 ka) rfl
        have b1 := HB2.out.cell' (i := 1) (v := .int .i64 xa) rfl
        have b2 := HB2.out.cell' (i := 2) (v := .int .i64 ya) rfl
        have l1 : ¬ 9223372036854775807 < t.length + (actF (ka, xa, ya)).length := by have := HL.out; omega
        have l2 : ¬ 9223372036854775807 < t.length + (actF (ka, xa, ya)).length + 1 := by have := HL.out; omega
        by_cases hlast : k + 1 < l.length
        · obtain ⟨a', ha'⟩ : ∃ a', l[k + 1]? = some a' := ⟨l[k + 1], by simp [hlast]⟩
          have t0 : decide ((k : Int) + 1 < l.length) = true := by simp; omega
          have t1 : decide (k + 1 < l.length) = true := by simp; omega
          obtain ⟨-, g', of', he, -, y0, y1, y2⟩ := (HI.out.chg0 HC2.out).at ha'
          cases he
          have k3 := act_eq a' (ka, xa, ya)
          have k2 := eq_guard
          obtain ⟨e, he⟩ : ∃ e, decide (a' = (ka, xa, ya)) = e := ⟨_, rfl⟩
          rw [he] at k3
          have hgw2 : g < w2.heap.size := Nat.lt_of_lt_of_le hgw0.out HC2.out.size
          have i0 : (0 : Int) ≤ (k : Int) + 1 := by omega
          have i1 : (k : Int) + 1 < l.length := by omega
          cases e
          · have HNO : ¬ ((l.drop (k + 1)).head? = some (ka, xa, ya) ∧ n + 1 < 100000) := by
              rw [headD, ha']
              intro h
              have h2 := Option.some.inj h.1
              exact absurd h2 (of_decide_eq_false he)
            clear he ha'
            have HOUT := Lib.hid (refG_cons_out (n := n) HNE.out HNO)
            clear HNO
            go_wp2_with fail
            go_quiet (fail)
            go_wp2_with fail
            with_reducible refine (HAC.out _).mono ?_
            rintro e w3 ⟨rfl, C3⟩
            have HC3 : Hid (Chg NoB w w3) := Lib.hid ((HC2.out.drewN _).step C3)
            clear C3
            rcases Nat.eq_zero_or_pos n with hn0 | hn0
            · subst hn0
              go_wp2_with fail
              go_roundg (l.length - (k + 1))
              case measure => have := HK.out; omega
              case rel => exact ⟨k + 1, 0, t ++ (lineT (ka, xa, ya) 1 ++ [10]), by have := HK.out; omega, by rw [show lineT (ka, xa, ya) 1 = actF (ka, xa, ya) from rfl, bs_app, bs_app]; exact congrArg Value.string (ba_assoc _ _ _), rfl, by go_num, by omega, by
                  have := HL.out
                  rw [List.length_append, List.length_append, show lineT (ka, xa, ya) 1 = actF (ka, xa, ya) from rfl]
                  simp only [List.length_cons, List.length_nil]; omega, by rw [HG.out, HD.out, HOUT.out]; cases refG (l.drop (k + 1)) 0 <;> simp, HC3.out⟩
            · have n1 : decide (1 < (n : Int) + 1) = true := by simp; omega
              have n2 : decide (0 < n) = true := by simp; omega
              have HNU := Lib.hid fun w => num_any ((n : Int) + 1) w ⟨by omega, by omega⟩
              have hil := itoa_len (n := (n : Int) + 1) ⟨by omega, by omega⟩
              have HIL := Lib.hid hil
              have l3 : ¬ 9223372036854775807 < 2 + (Go.Lib.itoa ((n : Int) + 1)).length := by omega
              have l4 : ¬ 9223372036854775807 < t.length + (actF (ka, xa, ya)).length + (2 + (Go.Lib.itoa ((n : Int) + 1)).length) := by have := HL.out; omega
              have l5 : ¬ 9223372036854775807 < t.length + (actF (ka, xa, ya)).length + (2 + (Go.Lib.itoa ((n : Int) + 1)).length) + 1 := by have := HL.out; omega
              have hln : lineT (ka, xa, ya) (n + 1) = actF (ka, xa, ya) ++ ([32, 120] ++ Go.Lib.itoa ((n : Int) + 1)) := by
                unfold lineT xW
                rw [if_neg (by omega)]
                rfl
              have HLN := Lib.hid hln
              clear hil hln
              go_wp2_with fail
              with_reducible refine (HNU.out _).mono ?_
              rintro e w4 ⟨rfl, hw4⟩
              subst hw4
              go_wp2_with fail
              go_roundg (l.length - (k + 1))
              case measure => have := HK.out; omega
              case rel => exact ⟨k + 1, 0, t ++ (lineT (ka, xa, ya) (n + 1) ++ [10]), by have := HK.out; omega, by rw [HLN.out, bs_app, bs_app, bs_app, bs_app]; exact congrArg Value.string (ba_assoc4 _ _ _ _ _), rfl, by go_num, by omega, by
                  have h1 := HL.out
                  have h2 := HIL.out
                  rw [HLN.out]
                  simp only [List.length_append, List.length_cons, List.length_nil]; omega, by rw [HG.out, HD.out, HOUT.out]; cases refG (l.drop (k + 1)) 0 <;> simp, HC3.out⟩
          · have HON := Lib.hid (refG_cons_on (a := (ka, xa, ya)) (l := l.drop (k + 1)) (n := n) HNE.out ⟨by rw [headD, ha', of_decide_eq_true he], by have := HL.out; omega⟩)
            have n1 : decide ((n : Int) + 1 < 100000) = true := by have := HL.out; simp; omega
            clear he ha'
            go_wp2_with fail
            go_quiet (fail)
            go_wp2_with fail
            go_roundg (l.length - (k + 1))
            case measure => have := HK.out; omega
            case rel => exact ⟨k + 1, n + 1, t, by have := HK.out; omega, rfl, by go_num, by go_num, by have := HL.out; omega, by have := HL.out; omega, by rw [HG.out, HD.out, HON.out], HC2.out.drewN _⟩
        · have t0 : decide ((k : Int) + 1 < l.length) = false := by simp; omega
          have t1 : decide (k + 1 < l.length) = false := by simp; omega
          have HNO : ¬ ((l.drop (k + 1)).head? = some (ka, xa, ya) ∧ n + 1 < 100000) := by
            rw [headD, List.getElem?_eq_none (by omega)]
            simp
          have HOUT := Lib.hid (refG_cons_out (n := n) HNE.out HNO)
          clear HNO
          go_wp2_with fail
          go_quiet (fail)
          go_wp2_with fail
          with_reducible refine (HAC.out _).mono ?_
          rintro e w3 ⟨rfl, C3⟩
          have HC3 : Hid (Chg NoB w w3) := Lib.hid ((HC2.out.drewN _).step C3)
          clear C3
          rcases Nat.eq_zero_or_pos n with hn0 | hn0
          · subst hn0
            go_wp2_with fail
            go_roundg (l.length - (k + 1))
            case measure => have := HK.out; omega
            case rel => exact ⟨k + 1, 0, t ++ (lineT (ka, xa, ya) 1 ++ [10]), by have := HK.out; omega, by rw [show lineT (ka, xa, ya) 1 = actF (ka, xa, ya) from rfl, bs_app, bs_app]; exact congrArg Value.string (ba_assoc _ _ _), rfl, by go_num, by omega, by
                have := HL.out
                rw [List.length_append, List.length_append, show lineT (ka, xa, ya) 1 = actF (ka, xa, ya) from rfl]
                simp only [List.length_cons, List.length_nil]; omega, by rw [HG.out, HD.out, HOUT.out]; cases refG (l.drop (k + 1)) 0 <;> simp, HC3.out⟩
          · have n1 : decide (1 < (n : Int) + 1) = true := by simp; omega
            have n2 : decide (0 < n) = true := by simp; omega
            have HNU := Lib.hid fun w => num_any ((n : Int) + 1) w ⟨by omega, by omega⟩
            have hil := itoa_len (n := (n : Int) + 1) ⟨by omega, by omega⟩
            have HIL := Lib.hid hil
            have l3 : ¬ 9223372036854775807 < 2 + (Go.Lib.itoa ((n : Int) + 1)).length := by omega
            have l4 : ¬ 9223372036854775807 < t.length + (actF (ka, xa, ya)).length + (2 + (Go.Lib.itoa ((n : Int) + 1)).length) := by have := HL.out; omega
            have l5 : ¬ 9223372036854775807 < t.length + (actF (ka, xa, ya)).length + (2 + (Go.Lib.itoa ((n : Int) + 1)).length) + 1 := by have := HL.out; omega
            have hln : lineT (ka, xa, ya) (n + 1) = actF (ka, xa, ya) ++ ([32, 120] ++ Go.Lib.itoa ((n : Int) + 1)) := by
              unfold lineT xW
              rw [if_neg (by omega)]
              rfl
            have HLN := Lib.hid hln
            clear hil hln
            go_wp2_with fail
            with_reducible refine (HNU.out _).mono ?_
            rintro e w4 ⟨rfl, hw4⟩
            subst hw4
            go_wp2_with fail
            go_roundg (l.length - (k + 1))
            case measure => have := HK.out; omega
            case rel => exact ⟨k + 1, 0, t ++ (lineT (ka, xa, ya) (n + 1) ++ [10]), by have := HK.out; omega, by rw [HLN.out, bs_app, bs_app, bs_app, bs_app]; exact congrArg Value.string (ba_assoc4 _ _ _ _ _), rfl, by go_num, by omega, by
                have h1 := HL.out
                have h2 := HIL.out
                rw [HLN.out]
                simp only [List.length_append, List.length_cons, List.length_nil]; omega, by rw [HG.out, HD.out, HOUT.out]; cases refG (l.drop (k + 1)) 0 <;> simp, HC3.out⟩
      · rw [hq] at q
        have HF : Hid (refG l 0 = none) := Lib.hid (by rw [HG.out, HD.out, refG_cons_none (of_decide_eq_true hq)]; rfl)
        clear hq
        go_wp2_with fail
        with_reducible refine (HAC.out _).mono ?_
        rintro e w2 ⟨rfl, C2⟩
        have HC2 := Lib.hid (HCN.out.step C2)
        clear C2
        go_wp2_with fail
        go_ret
        exact ⟨by rw [HF.out]; rfl, HC2.out⟩
    · obtain rfl : k = l.length := by omega
      have HF : Hid (refG l 0 = some t) := Lib.hid (by rw [HG.out, List.drop_length]; simp [refG])
      go_wp2_with fail
      go_ret
      exact ⟨by rw [HF.out]; rfl, HC.out⟩
end Go.Proofs.YtfidiiifcmmffaaDoor
