/- A script's text, by the program. No condition. -/
import Derived.Test.YtfidiiifcmmffaaDoorTrace17
set_option linter.unusedVariables false
set_option linter.unusedSimpArgs false
namespace Go.Proofs.YtfidiiifcmmffaaDoor
open Go.RowKit Go.RR
theorem ba_size_app (x : Bs) : ((⟨x.toArray⟩ : ByteArray) ++ ⟨#[10]⟩).size = x.length + 1 := by rw [ByteArray.size_append]; rfl
set_option maxHeartbeats 4000000 in
set_option maxRecDepth 100000 in
theorem tprint_any (v : Value) (l : List Ac) (w : World) (hI : AAt w v l) (hl : l.length ≤ 5000) (hi : ∀ a ∈ l, i64A a) (L : Lb w) : Calls Tryd.prog 11 #[v] w (RetW (.string ⟨((printF l).getD []).toArray⟩) fun w' => Chg NoB w w') := by
  obtain ⟨p, cap, rfl⟩ := hI.form
  have HI := Lib.hid hI
  have HA := Lib.hid hi
  have HLB := Lib.hid L
  have HB0 := Lib.hid (builder_new w)
  have HC0 := Lib.hid ((Chg.refl NoB w).alloc (.cells #[.pointer none, .slice none 0 0] 63))
  have HG0 : Hid (printF l = printG (l.length - 0) (l.drop 0)) := Lib.hid rfl
  clear hI hi L
  go_enter Tryd.func11, Tryd.ntmps11
  go_wp2_with fail
  go_loopg [4, 5, 6] l.length (fun g iv _ _ wr => ∃ (i : Nat) (t : Bs), i + g = l.length ∧ iv = .int .i64 i ∧ t.length ≤ 100 * i ∧ printF l = (printG (l.length - i) (l.drop i)).map (fun r => t ++ r) ∧ Chg NoB w wr ∧ Go.Lib.IsBuilder 63 5 w.heap.size w.heap.size (Go.Lib.byteCells t) wr)
  case atStart => exact ⟨0, [], by omega, rfl, by simp, by rw [HG0.out]; cases printG (l.length - 0) (l.drop 0) <;> rfl, HC0.out, HB0.out⟩
  case round =>
    obtain ⟨i, t, hk, rfl, ht, hg, hC, hB⟩ := hrel
    rename World => wr
    have HK := Lib.hid hk
    have HG := Lib.hid hg
    have HC := Lib.hid hC
    have HB := Lib.hid hB
    have hkl : i ≤ l.length := by omega
    clear hk hg hC hB
    by_cases hlt : i < l.length
    · obtain ⟨a, ha⟩ : ∃ a, l[i]? = some a := ⟨l[i], by simp [hlt]⟩
      obtain ⟨hcap, g, of, rfl, hgw, x0, x1, x2⟩ := (HI.out.chg0 HC.out).at ha
      have hgw0 : Hid (g < w.heap.size) := Lib.hid (by obtain ⟨-, g2, of2, e2, h2, -⟩ := HI.out.at ha; cases e2; exact h2)
      have hai := HA.out a (List.mem_of_getElem? ha)
      have hal := actF_len hai.2.1 hai.2.2
      have k0 : (0 : Int) ≤ i := by omega
      have k1 : (i : Int) < l.length := by omega
      have HAC := Lib.hid (tact_any a.1 a.2.1 a.2.2 wr hai.2.1 hai.2.2 hai.1 (HLB.out.chg0 HC.out))
      have HHA := Lib.hid ha
      have q := actB a
      obtain ⟨ka, xa, ya⟩ := a
      simp only at x0 x1 x2 HAC
      have HL := Lib.hid (And.intro hal (And.intro ht (And.intro hlt hl)))
      clear ha hai hal ht
      cases hq : decide (actF (ka, xa, ya) = [])
      · rw [hq] at q
        have HNE := Lib.hid (of_decide_eq_false hq)
        clear hq
        go_wp2_with fail
        with_reducible refine HAC.out.mono ?_
        rintro e w2 ⟨rfl, C2⟩
        have HC2 := Lib.hid (HC.out.step C2)
        have HB2 := Lib.hid (builder_chg HB.out C2)
        clear C2 x0 x1 x2
        go_wp2_with fail
        go_loopg [6] (l.length - i) (fun gm nv wi => ∃ n : Nat, i + n + gm = l.length + 1 ∧ nv = .int .i64 n ∧ 1 ≤ n ∧ i + n ≤ l.length ∧ (∀ j, j < n → l[i + j]? = some (ka, xa, ya)) ∧ Chg NoB w2 wi)
        case atStart => exact ⟨1, by omega, rfl, Nat.le_refl _, by omega, fun j hj => (show j = 0 by omega) ▸ HHA.out, Chg.refl _ _⟩
        case round =>
          obtain ⟨n, hm, rfl, hn1, hin, hrun, hCi⟩ := hrel
          rename World => wi
          have HM := Lib.hid hm
          have HN1 := Lib.hid hn1
          have HRUN := Lib.hid hrun
          have HCi := Lib.hid hCi
          have nb : (1 : Int) ≤ n ∧ (n : Int) ≤ 5000 := by omega
          have nb2 : (i : Int) + n ≤ l.length ∧ (l.length : Int) ≤ 5000 := by omega
          have l1 : ¬ 9223372036854775807 < (actF (ka, xa, ya)).length + 1 := by have := HL.out; omega
          clear hm hn1 hrun hCi
          by_cases hlast : i + n < l.length
          · obtain ⟨a', ha'⟩ : ∃ a', l[i + n]? = some a' := ⟨l[i + n], by simp [hlast]⟩
            have t0 : decide ((i : Int) + n < l.length) = true := by simp; omega
            have t1 : decide (i + n < l.length) = true := by simp; omega
            obtain ⟨-, g', of', he, -, y0, y1, y2⟩ := (HI.out.chg0 (HC2.out.step HCi.out)).at ha'
            cases he
            obtain ⟨-, g', of', he, -, x0, x1, x2⟩ := (HI.out.chg0 (HC2.out.step HCi.out)).at HHA.out
            cases he
            simp only at x0 x1 x2
            have k3 := act_eq a' (ka, xa, ya)
            have k2 := eq_guard
            obtain ⟨e, he⟩ : ∃ e, decide (a' = (ka, xa, ya)) = e := ⟨_, rfl⟩
            rw [he] at k3
            have i0 : (0 : Int) ≤ (i : Int) + n := by omega
            have i1 : (i : Int) + n < l.length := by omega
            cases e
            · have HSTOP : l[i + n]? ≠ some (ka, xa, ya) := by
                rw [ha']
                intro h
                exact absurd (Option.some.inj h) (of_decide_eq_false he)
              clear he ha'
              have HST := Lib.hid (print_step HN1.out HNE.out HRUN.out HSTOP)
              clear HSTOP
              go_wp2_with fail
              go_quiet (fail)
              have HCX := Lib.hid (HC2.out.trans (HCi.out.drewN nq) (fun _ _ h => h))
              have HBX := Lib.hid (builder_chg HB2.out (HCi.out.drewN nq))
              rcases Nat.eq_or_lt_of_le HN1.out with hn1 | hn1
              · subst hn1
                have hlw : (Go.Lib.byteCells t).length + (⟨(actF (ka, xa, ya)).toArray⟩ ++ ⟨#[10]⟩ : ByteArray).size ≤ 140737488355328 := by
                  have := HL.out
                  rw [show (Go.Lib.byteCells t).length = t.length by simp [Go.Lib.byteCells], ba_size_app]
                  omega
                have HWR := Lib.hid (writeString_any w.heap.size w.heap.size (Go.Lib.byteCells t) (⟨(actF (ka, xa, ya)).toArray⟩ ++ ⟨#[10]⟩) _ HBX.out hlw HCX.out.size)
                clear hlw
                go_wp2_with fail
                with_reducible refine HWR.out.mono ?_
                rintro e w5 ⟨rfl, hb5, hbel⟩
                have HB5 := Lib.hid hb5
                have HC5 := Lib.hid (chg_below HCX.out hbel)
                clear hb5 hbel
                go_wp2_with fail
                go_roundg (l.length - (i + 1))
                case measure => have := HK.out; omega
                case rel => exact ⟨i + 1, t ++ (lineT (ka, xa, ya) 1 ++ [10]), by have := HK.out; omega, by go_num, by
                    have := HL.out
                    rw [List.length_append, List.length_append, show lineT (ka, xa, ya) 1 = actF (ka, xa, ya) from rfl]
                    simp only [List.length_cons, List.length_nil]; omega, by rw [HG.out, HST.out]; cases printG (l.length - (i + 1)) (l.drop (i + 1)) <;> simp, HC5.out, .inr (by
                    have h := HB5.out
                    rw [show Go.Lib.byteCells t ++ Go.Lib.strCells (⟨(actF (ka, xa, ya)).toArray⟩ ++ ⟨#[10]⟩) = Go.Lib.byteCells (t ++ (lineT (ka, xa, ya) 1 ++ [10])) from by rw [show (⟨(actF (ka, xa, ya)).toArray⟩ ++ ⟨#[10]⟩ : ByteArray) = ⟨(actF (ka, xa, ya) ++ [10]).toArray⟩ from bs_append _ _, str_byte]; simp [Go.Lib.byteCells, lineT]] at h
                    exact h)⟩
              · have n1 : decide (1 < (n : Int)) = true := by simp; omega
                have n2 : decide (1 < n) = true := by simp; omega
                have hni : i64 (n : Int) := ⟨by omega, by omega⟩
                have hil := itoa_len hni
                have HNU := Lib.hid (tnum_any (n : Int) _ hni (HLB.out.chg0 HCX.out))
                have l3 : ¬ 9223372036854775807 < 2 + (Go.Lib.itoa (n : Int)).length := by omega
                have l4 : ¬ 9223372036854775807 < (actF (ka, xa, ya)).length + (2 + (Go.Lib.itoa (n : Int)).length) := by have := HL.out; omega
                have l5 : ¬ 9223372036854775807 < (actF (ka, xa, ya)).length + (2 + (Go.Lib.itoa (n : Int)).length) + 1 := by have := HL.out; omega
                have HLN : Hid (lineT (ka, xa, ya) n = actF (ka, xa, ya) ++ ([32, 120] ++ Go.Lib.itoa (n : Int))) := Lib.hid (by
                  unfold lineT xW
                  rw [if_neg (by omega)]
                  rfl)
                have HIL := Lib.hid hil
                clear hil hni
                go_wp2_with fail
                with_reducible refine HNU.out.mono ?_
                rintro e w4 ⟨rfl, C4⟩
                have HC4 := Lib.hid (HCX.out.step C4)
                have HB4 := Lib.hid (builder_chg HBX.out C4)
                have hlw : (Go.Lib.byteCells t).length + (⟨(actF (ka, xa, ya)).toArray⟩ ++ (⟨#[32, 120]⟩ ++ ⟨(Go.Lib.itoa (n : Int)).toArray⟩) ++ ⟨#[10]⟩ : ByteArray).size ≤ 140737488355328 := by
                  have h1 := HL.out
                  have h2 := HIL.out
                  have e2 : (⟨#[32, 120]⟩ : ByteArray).size = 2 := rfl
                  have e3 : (⟨#[10]⟩ : ByteArray).size = 1 := rfl
                  rw [show (Go.Lib.byteCells t).length = t.length by simp [Go.Lib.byteCells], ByteArray.size_append, ByteArray.size_append, ByteArray.size_append, e2, e3, bl_size, bl_size]
                  omega
                have HWR := Lib.hid (writeString_any w.heap.size w.heap.size (Go.Lib.byteCells t) (⟨(actF (ka, xa, ya)).toArray⟩ ++ (⟨#[32, 120]⟩ ++ ⟨(Go.Lib.itoa (n : Int)).toArray⟩) ++ ⟨#[10]⟩) _ HB4.out hlw HC4.out.size)
                clear C4 hlw
                go_wp2_with fail
                with_reducible refine HWR.out.mono ?_
                rintro e w5 ⟨rfl, hb5, hbel⟩
                have HB5 := Lib.hid hb5
                have HC5 := Lib.hid (chg_below HC4.out hbel)
                clear hb5 hbel
                go_wp2_with fail
                go_roundg (l.length - (i + n))
                case measure => have := HK.out; omega
                case rel => exact ⟨i + n, t ++ (lineT (ka, xa, ya) n ++ [10]), by have := HK.out; omega, by go_num, by
                    have h1 := HL.out
                    have h2 := HIL.out
                    rw [HLN.out]
                    simp only [List.length_append, List.length_cons, List.length_nil]; omega, by rw [HG.out, HST.out]; cases printG (l.length - (i + n)) (l.drop (i + n)) <;> simp, HC5.out, .inr (by
                    have h := HB5.out
                    rw [show Go.Lib.byteCells t ++ Go.Lib.strCells (⟨(actF (ka, xa, ya)).toArray⟩ ++ (⟨#[32, 120]⟩ ++ ⟨(Go.Lib.itoa (n : Int)).toArray⟩) ++ ⟨#[10]⟩) = Go.Lib.byteCells (t ++ (lineT (ka, xa, ya) n ++ [10])) from by
                      rw [show (⟨(actF (ka, xa, ya)).toArray⟩ ++ (⟨#[32, 120]⟩ ++ ⟨(Go.Lib.itoa (n : Int)).toArray⟩) ++ ⟨#[10]⟩ : ByteArray) = ⟨(actF (ka, xa, ya) ++ ([32, 120] ++ Go.Lib.itoa (n : Int)) ++ [10]).toArray⟩ from by
                        rw [bs_app, bs_app, bs_app], str_byte, HLN.out]
                      simp [Go.Lib.byteCells]] at h
                    exact h)⟩
            · have HEQ : Hid (l[i + n]? = some (ka, xa, ya)) := Lib.hid (by rw [ha', of_decide_eq_true he])
              have n1 : decide ((n : Int) < 100000) = true := by simp; omega
              have n2 : decide (n < 100000) = true := by simp; omega
              clear he ha'
              go_wp2_with fail
              go_quiet (fail)
              go_wp2_with fail
              go_roundg (l.length + 1 - (i + n + 1))
              case measure => have := HM.out; omega
              case rel => exact ⟨n + 1, by have := HM.out; omega, by go_num, by have := HN1.out; omega, by omega, fun j hj => by
                rcases Nat.lt_or_ge j n with h | h
                · exact HRUN.out j h
                · obtain rfl : j = n := by omega
                  exact HEQ.out, HCi.out.drewN _⟩
          · have t0 : decide ((i : Int) + n < l.length) = false := by simp; omega
            have t1 : decide (i + n < l.length) = false := by simp; omega
            have HSTOP : l[i + n]? ≠ some (ka, xa, ya) := by rw [List.getElem?_eq_none (by omega)]; simp
            have HST := Lib.hid (print_step HN1.out HNE.out HRUN.out HSTOP)
            clear HSTOP
            go_wp2_with fail
            go_quiet (fail)
            have HCX := Lib.hid (HC2.out.trans (HCi.out.drewN nq) (fun _ _ h => h))
            have HBX := Lib.hid (builder_chg HB2.out (HCi.out.drewN nq))
            rcases Nat.eq_or_lt_of_le HN1.out with hn1 | hn1
            · subst hn1
              have hlw : (Go.Lib.byteCells t).length + (⟨(actF (ka, xa, ya)).toArray⟩ ++ ⟨#[10]⟩ : ByteArray).size ≤ 140737488355328 := by
                have := HL.out
                rw [show (Go.Lib.byteCells t).length = t.length by simp [Go.Lib.byteCells], ba_size_app]
                omega
              have HWR := Lib.hid (writeString_any w.heap.size w.heap.size (Go.Lib.byteCells t) (⟨(actF (ka, xa, ya)).toArray⟩ ++ ⟨#[10]⟩) _ HBX.out hlw HCX.out.size)
              clear hlw
              go_wp2_with fail
              with_reducible refine HWR.out.mono ?_
              rintro e w5 ⟨rfl, hb5, hbel⟩
              have HB5 := Lib.hid hb5
              have HC5 := Lib.hid (chg_below HCX.out hbel)
              clear hb5 hbel
              go_wp2_with fail
              go_roundg (l.length - (i + 1))
              case measure => have := HK.out; omega
              case rel => exact ⟨i + 1, t ++ (lineT (ka, xa, ya) 1 ++ [10]), by have := HK.out; omega, by go_num, by
                  have := HL.out
                  rw [List.length_append, List.length_append, show lineT (ka, xa, ya) 1 = actF (ka, xa, ya) from rfl]
                  simp only [List.length_cons, List.length_nil]; omega, by rw [HG.out, HST.out]; cases printG (l.length - (i + 1)) (l.drop (i + 1)) <;> simp, HC5.out, .inr (by
                  have h := HB5.out
                  rw [show Go.Lib.byteCells t ++ Go.Lib.strCells (⟨(actF (ka, xa, ya)).toArray⟩ ++ ⟨#[10]⟩) = Go.Lib.byteCells (t ++ (lineT (ka, xa, ya) 1 ++ [10])) from by rw [show (⟨(actF (ka, xa, ya)).toArray⟩ ++ ⟨#[10]⟩ : ByteArray) = ⟨(actF (ka, xa, ya) ++ [10]).toArray⟩ from bs_append _ _, str_byte]; simp [Go.Lib.byteCells, lineT]] at h
                  exact h)⟩
            · have n1 : decide (1 < (n : Int)) = true := by simp; omega
              have n2 : decide (1 < n) = true := by simp; omega
              have hni : i64 (n : Int) := ⟨by omega, by omega⟩
              have hil := itoa_len hni
              have HNU := Lib.hid (tnum_any (n : Int) _ hni (HLB.out.chg0 HCX.out))
              have l3 : ¬ 9223372036854775807 < 2 + (Go.Lib.itoa (n : Int)).length := by omega
              have l4 : ¬ 9223372036854775807 < (actF (ka, xa, ya)).length + (2 + (Go.Lib.itoa (n : Int)).length) := by have := HL.out; omega
              have l5 : ¬ 9223372036854775807 < (actF (ka, xa, ya)).length + (2 + (Go.Lib.itoa (n : Int)).length) + 1 := by have := HL.out; omega
              have HLN : Hid (lineT (ka, xa, ya) n = actF (ka, xa, ya) ++ ([32, 120] ++ Go.Lib.itoa (n : Int))) := Lib.hid (by
                unfold lineT xW
                rw [if_neg (by omega)]
                rfl)
              have HIL := Lib.hid hil
              clear hil hni
              go_wp2_with fail
              with_reducible refine HNU.out.mono ?_
              rintro e w4 ⟨rfl, C4⟩
              have HC4 := Lib.hid (HCX.out.step C4)
              have HB4 := Lib.hid (builder_chg HBX.out C4)
              have hlw : (Go.Lib.byteCells t).length + (⟨(actF (ka, xa, ya)).toArray⟩ ++ (⟨#[32, 120]⟩ ++ ⟨(Go.Lib.itoa (n : Int)).toArray⟩) ++ ⟨#[10]⟩ : ByteArray).size ≤ 140737488355328 := by
                have h1 := HL.out
                have h2 := HIL.out
                have e2 : (⟨#[32, 120]⟩ : ByteArray).size = 2 := rfl
                have e3 : (⟨#[10]⟩ : ByteArray).size = 1 := rfl
                rw [show (Go.Lib.byteCells t).length = t.length by simp [Go.Lib.byteCells], ByteArray.size_append, ByteArray.size_append, ByteArray.size_append, e2, e3, bl_size, bl_size]
                omega
              have HWR := Lib.hid (writeString_any w.heap.size w.heap.size (Go.Lib.byteCells t) (⟨(actF (ka, xa, ya)).toArray⟩ ++ (⟨#[32, 120]⟩ ++ ⟨(Go.Lib.itoa (n : Int)).toArray⟩) ++ ⟨#[10]⟩) _ HB4.out hlw HC4.out.size)
              clear C4 hlw
              go_wp2_with fail
              with_reducible refine HWR.out.mono ?_
              rintro e w5 ⟨rfl, hb5, hbel⟩
              have HB5 := Lib.hid hb5
              have HC5 := Lib.hid (chg_below HC4.out hbel)
              clear hb5 hbel
              go_wp2_with fail
              go_roundg (l.length - (i + n))
              case measure => have := HK.out; omega
              case rel => exact ⟨i + n, t ++ (lineT (ka, xa, ya) n ++ [10]), by have := HK.out; omega, by go_num, by
                  have h1 := HL.out
                  have h2 := HIL.out
                  rw [HLN.out]
                  simp only [List.length_append, List.length_cons, List.length_nil]; omega, by rw [HG.out, HST.out]; cases printG (l.length - (i + n)) (l.drop (i + n)) <;> simp, HC5.out, .inr (by
                  have h := HB5.out
                  rw [show Go.Lib.byteCells t ++ Go.Lib.strCells (⟨(actF (ka, xa, ya)).toArray⟩ ++ (⟨#[32, 120]⟩ ++ ⟨(Go.Lib.itoa (n : Int)).toArray⟩) ++ ⟨#[10]⟩) = Go.Lib.byteCells (t ++ (lineT (ka, xa, ya) n ++ [10])) from by
                    rw [show (⟨(actF (ka, xa, ya)).toArray⟩ ++ (⟨#[32, 120]⟩ ++ ⟨(Go.Lib.itoa (n : Int)).toArray⟩) ++ ⟨#[10]⟩ : ByteArray) = ⟨(actF (ka, xa, ya) ++ ([32, 120] ++ Go.Lib.itoa (n : Int)) ++ [10]).toArray⟩ from by
                      rw [bs_app, bs_app, bs_app], str_byte, HLN.out]
                    simp [Go.Lib.byteCells]] at h
                  exact h)⟩
      · rw [hq] at q
        have HF : Hid (printF l = none) := Lib.hid (by rw [HG.out, print_none HHA.out (of_decide_eq_true hq)]; rfl)
        clear hq
        go_wp2_with fail
        with_reducible refine HAC.out.mono ?_
        rintro e w2 ⟨rfl, C2⟩
        have HC2 := Lib.hid (HC.out.step C2)
        clear C2
        go_wp2_with fail
        go_ret
        exact ⟨by rw [HF.out]; rfl, HC2.out⟩
    · obtain rfl : i = l.length := by omega
      have HF : Hid (printF l = some t) := Lib.hid (by rw [HG.out, List.drop_length, Nat.sub_self]; simp [printG])
      have HSB := Lib.hid (Tryd.Builder_String_any w.heap.size w.heap.size t wr HB.out HC.out.size)
      go_wp2_with fail
      with_reducible refine HSB.out.mono ?_
      rintro e w2 ⟨rfl, hb2⟩
      have HC2 := Lib.hid (chg_below HC.out hb2)
      clear hb2
      go_wp2_with fail
      go_ret
      exact ⟨by rw [HF.out]; rfl, HC2.out⟩
end Go.Proofs.YtfidiiifcmmffaaDoor
