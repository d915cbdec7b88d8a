/- TracePrints returns true, whatever it is given. No condition. -/
import Derived.Test.YtfidiiifcmmffaaDoorTrace21
import Derived.Test.YtfidiiifcmmffaaDoorTrace16
set_option linter.unusedVariables false
set_option linter.unusedSimpArgs false
namespace Go.Proofs.YtfidiiifcmmffaaDoor
open Go.RowKit Go.RR

theorem lineT_len {a : Ac} {n : Nat} (h : i64A a) (hn : n ≤ 100000) : (lineT a n).length ≤ 90 := by
  have h1 := actF_len h.2.1 h.2.2
  have h2 := itoa_len (n := (n : Int)) ⟨by omega, by omega⟩
  unfold lineT xW
  split
  · omega
  · simp only [List.length_append, List.length_cons]; omega
theorem printG_len : ∀ (f : Nat) (l : List Ac) (t : Bs), l.length ≤ f → l.length ≤ 99999 → (∀ a ∈ l, i64A a) → printG f l = some t → t.length ≤ 100 * l.length
  | 0, l, t, hf, hm, hi, h => by simp only [printG, Option.some.injEq] at h; rw [← h]; simp
  | f + 1, [], t, hf, hm, hi, h => by simp only [printG, Option.some.injEq] at h; rw [← h]; simp
  | f + 1, a :: l, t, hf, hm, hi, h => by
    simp only [printG] at h
    split at h
    · cases h
    · cases hg : printG f (l.drop (runN a l)) with
      | none => rw [hg] at h; cases h
      | some t2 =>
        rw [hg] at h
        simp only [Option.some.injEq] at h
        subst h
        have hr := run_le a l
        simp only [List.length_cons] at hf hm
        have h1 := printG_len f _ t2 (by rw [List.length_drop]; omega) (by rw [List.length_drop]; omega) (fun b hb => hi b (List.mem_cons_of_mem _ (List.mem_of_mem_drop hb))) hg
        have h2 := lineT_len (n := runN a l + 1) (hi a (List.mem_cons_self ..)) (by omega)
        rw [List.length_drop] at h1
        simp only [List.length_append, List.length_cons]
        omega
theorem parse_back {l : List Ac} {t : Bs} (h : printF l = some t) (hi : ∀ a ∈ l, i64A a) (hl : l.length ≤ 5000) : parseF t = (l, 0, true) := by
  have := parse_print l.length l t 0 [] (Nat.le_refl _) h hi (by simp; omega)
  rw [List.nil_append] at this
  exact this
set_option maxHeartbeats 8000000 in
set_option maxRecDepth 100000 in
theorem tracePrints_any (v : Value) (l : List Ac) (w : World) (hI : AAt w v l) (hl : l.length ≤ 9223372036854775807) (hi : ∀ a ∈ l, i64A a) (L : Lb w) : Calls Tryd.prog 4 #[v] w (RetW (.bool true) fun w' => Chg NoB w w') := by
  obtain ⟨p, cap, rfl⟩ := hI.form
  have HI := Lib.hid hI
  have HL := Lib.hid L
  have HA := Lib.hid hi
  clear L hi hI
  go_enter Tryd.func4, Tryd.ntmps4
  go_wp2_with fail
  refine (first34_any _ HL.out).mono ?_
  rintro e w1 ⟨rfl, C1⟩
  have HC1 := Lib.hid C1
  clear C1
  by_cases hbig : 300 < l.length
  · have t0 : decide (300 < (l.length : Int)) = true := by simp; omega
    have t1 : decide (300 < l.length) = true := by simp; omega
    go_wp2_with fail
    go_ret
    exact ⟨rfl, HC1.out⟩
  · have t0 : decide (300 < (l.length : Int)) = false := by simp; omega
    have t1 : decide (300 < l.length) = false := by simp; omega
    have hlb : (l.length : Int) ≤ 300 := by omega
    have H2 := Lib.hid (tprint_any _ l w1 (HI.out.chg0 HC1.out) (by omega) HA.out (HL.out.chg0 HC1.out))
    obtain ⟨t, ht⟩ : ∃ t, (printF l).getD [] = t := ⟨_, rfl⟩
    rw [ht] at H2
    have HT := Lib.hid ht
    clear ht
    go_wp2_with fail
    with_reducible refine H2.out.mono ?_
    rintro e w2 ⟨rfl, C2⟩
    have HC2 := Lib.hid (HC1.out.step C2)
    clear C2
    have H3 := Lib.hid (rprint_any _ l w2 (HI.out.chg0 HC2.out) (by omega) HA.out)
    rw [refG_print l (by omega), HT.out] at H3
    go_wp2_with fail
    with_reducible refine H3.out.mono ?_
    rintro e w3 ⟨rfl, C3⟩
    have HC3 := Lib.hid (HC2.out.step C3)
    clear C3
    go_wp2_with fail
    go_loopg [22, 5] l.length (fun g ix _ wr => ∃ k : Nat, k + g = l.length ∧ ix = .int .i64 k ∧ Chg NoB w wr ∧ ∀ j a, j < k → l[j]? = some a → actF a ≠ [])
    case atStart => exact ⟨0, by omega, rfl, HC3.out, fun j a h => by omega⟩
    case round =>
      obtain ⟨k, hk, rfl, hC, hno⟩ := hrel
      rename World => wr
      have HK := Lib.hid hk
      have HC := Lib.hid hC
      have HNO := Lib.hid hno
      have hkl : k ≤ l.length := by omega
      clear hk hC hno
      by_cases hlt : k < l.length
      · obtain ⟨a, ha⟩ : ∃ a, l[k]? = some a := ⟨l[k], by simp [hlt]⟩
        obtain ⟨hcap, g, of, rfl, hgw, x0, x1, x2⟩ := (HI.out.chg0 HC.out).at ha
        have hai := HA.out a (List.mem_of_getElem? ha)
        have k0 : (0 : Int) ≤ k := by omega
        have k1 : (k : Int) < l.length := by omega
        have HAC := Lib.hid fun w => ract_any a.1 a.2.1 a.2.2 w hai.2.1 hai.2.2 hai.1
        have HHA := Lib.hid ha
        have q := actB a
        obtain ⟨ka, xa, ya⟩ := a
        simp only at x0 x1 x2 HAC
        have HB := Lib.hid (Blk.new wr #[.int .i64 ka, .int .i64 xa, .int .i64 ya] 23)
        have HCN := Lib.hid (HC.out.alloc (.cells #[.int .i64 ka, .int .i64 xa, .int .i64 ya] 23))
        have b0 := HB.out.cell' (i := 0) (v := .int .i64 ka) rfl
        have b1 := HB.out.cell' (i := 1) (v := .int .i64 xa) rfl
        have b2 := HB.out.cell' (i := 2) (v := .int .i64 ya) rfl
        clear ha hai
        cases hq : decide (actF (ka, xa, ya) = [])
        · rw [hq] at q
          have HNE := Lib.hid (of_decide_eq_false hq)
          clear hq
          go_wp2_with fail
          with_reducible refine (HAC.out _).mono ?_
          rintro e w4 ⟨rfl, C4⟩
          have HC4 := Lib.hid (HCN.out.step C4)
          clear C4
          go_wp2_with fail
          go_roundg (l.length - (k + 1))
          case measure => have := HK.out; omega
          case rel => exact ⟨k + 1, by have := HK.out; omega, by go_num, HC4.out, fun j a hj ha => by
            rcases Nat.lt_or_ge j k with h | h
            · exact HNO.out j a h ha
            · have e : j = k := by omega
              rw [e, HHA.out] at ha
              cases ha
              exact HNE.out⟩
        · rw [hq] at q
          have HF : Hid (printF l = none) := Lib.hid ((printF_none l).2 ⟨_, List.mem_of_getElem? HHA.out, of_decide_eq_true hq⟩)
          have hte : t = [] := by have := HT.out; rw [HF.out] at this; exact this.symm
          subst hte
          clear hq
          have qe : (ByteArray.toList ⟨#[]⟩ == []) = true := by decide +kernel
          go_wp2_with fail
          with_reducible refine (HAC.out _).mono ?_
          rintro e w4 ⟨rfl, C4⟩
          have HC4 := Lib.hid (HCN.out.step C4)
          clear C4
          go_wp2_with fail
          go_ret
          exact ⟨rfl, HC4.out⟩
      · obtain rfl : k = l.length := by omega
        have hp : printF l = some t := by
          cases h : printF l with
          | none =>
            obtain ⟨a, ha, hae⟩ := (printF_none l).1 h
            obtain ⟨j, hj, rfl⟩ := List.getElem_of_mem ha
            exact absurd hae (HNO.out j _ hj (List.getElem?_eq_getElem hj))
          | some t2 =>
            have := HT.out
            rw [h] at this
            exact congrArg some this
        have hpl := printG_len l.length l t (Nat.le_refl _) (by omega) HA.out hp
        have HP := Lib.hid (parse_any t wr (by omega) (HL.out.chg0 HC.out))
        have HPB := Lib.hid (parse_back hp HA.out (by omega))
        clear hp hpl
        go_wp2_with fail
        with_reducible refine HP.out.mono ?_
        rintro e w4 ⟨v4, rfl, C4, l4, n4, ok4, q4, hpp, rfl, hA4, -⟩
        rw [HPB.out] at hpp
        cases hpp
        obtain ⟨p4, c4, rfl⟩ := hA4.form
        have HA4 := Lib.hid hA4
        have HC4 := Lib.hid (HC.out.step C4)
        clear C4 hA4
        go_wp2_with fail
        refine (asame_any _ _ l l _ HA4.out (HI.out.chg0 HC4.out) (by omega) (by omega)).mono ?_
        rintro e w5 ⟨rfl, C5⟩
        rw [decide_eq_true (rfl : l = l)]
        have HC5 := Lib.hid (HC4.out.step C5)
        clear C5
        go_wp2_with fail
        go_ret
        exact ⟨rfl, HC5.out⟩
end Go.Proofs.YtfidiiifcmmffaaDoor
