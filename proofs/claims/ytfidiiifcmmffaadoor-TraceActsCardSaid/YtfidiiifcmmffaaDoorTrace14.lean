/- A line, by the reference. No condition. -/
import Derived.Test.YtfidiiifcmmffaaDoorTrace13
set_option linter.unusedVariables false
set_option linter.unusedSimpArgs false
namespace Go.Proofs.YtfidiiifcmmffaaDoor
open Go.RowKit Go.RR

theorem numRV_none {s : Bs} (h : numF s = none) : ∃ n, numRV s = .tuple #[.int .i64 n, .bool false] := ⟨(numR s).1, by unfold numRV; rw [numR_snd, h]; rfl⟩
theorem numRV_some {s : Bs} {n : Int} (h : numF s = some n) : numRV s = .tuple #[.int .i64 n, .bool true] := by unfold numRV; rw [numR_of h]
/-- What the reference's Line answers. -/
def lineV : Option (Ac × Nat) → Value
  | none => .tuple #[.agg zact, .int .i64 0]
  | some (a, n) => .tuple #[.agg #[.int .i64 a.1, .int .i64 a.2.1, .int .i64 a.2.2], .int .i64 n]
theorem timesF_one {ws : List Bs} {m : Nat} (hm : ws.length = m + 1) (h : ¬ (1 ≤ m ∧ (ws.getLastD []).head? = some 120)) : timesF ws = some (1, ws) := by
  unfold timesF
  rw [if_neg (fun h2 => h ⟨by omega, h2.2⟩)]
theorem timesF_bad {ws : List Bs} {m : Nat} (hm : ws.length = m + 1) (h : 1 ≤ m ∧ (ws.getLastD []).head? = some 120) (h2 : numF ((ws.getLastD []).drop 1) = none ∨ ∃ n, numF ((ws.getLastD []).drop 1) = some n ∧ (n < 2 ∨ 100000 < n)) : timesF ws = none := by
  unfold timesF
  rw [if_pos ⟨by omega, h.2⟩]
  rcases h2 with h2 | ⟨n, h2, h3⟩
  · rw [h2]
  · rw [h2]
    simp only
    rw [if_pos h3]
theorem timesF_n {ws : List Bs} {m : Nat} (hm : ws.length = m + 1) (h : 1 ≤ m ∧ (ws.getLastD []).head? = some 120) {n : Int} (h2 : numF ((ws.getLastD []).drop 1) = some n) (h3 : ¬ (n < 2 ∨ 100000 < n)) : timesF ws = some (n.toNat, ws.take m) := by
  unfold timesF
  rw [if_pos ⟨by omega, h.2⟩, h2]
  simp only
  rw [if_neg h3, List.dropLast_eq_take, hm, Nat.add_sub_cancel]
theorem actW_is {x : Bs} {ws : List Bs} {k : Nat} {l : List Int} (h : kindF (x :: ws) = some k) (hn : numsF ws = some l) : actW (x :: ws) = some ((k : Int), l.getD 0 0, l.getD 1 0) := by
  unfold actW
  rw [h]
  simp only [List.drop_succ_cons, List.drop_zero, hn]
theorem actW_no {ws : List Bs} (h : kindF ws = none) : actW ws = none := by unfold actW; rw [h]
theorem actW_nob {ws : List Bs} {y : Bs} (hy : y ∈ ws.drop 1) (hn : numF y = none) : actW ws = none := by
  unfold actW
  cases kindF ws with
  | none => rfl
  | some k => rw [show numsF (ws.drop 1) = none from nums_bad hy hn]
theorem names3 (W : World) : Calls Tryd.prog 21 #[] W (RetW (.slice (some ⟨W.heap.size, 0, none⟩) 7 7) fun w' => Chg NoB W w' ∧ ∀ j, j < 7 → w'.cell? ⟨W.heap.size, j, none⟩ = some (.string ⟨(nameF j).toArray⟩)) :=
  (names_any W).mono fun e w' ⟨he, hw⟩ => ⟨he, by rw [hw]; exact ⟨(Chg.refl _ _).alloc _, fun j hj => (Blk.new W _ 9).cell' (names_at j hj)⟩⟩
theorem head_at (b : ByteArray) (h : 0 < b.size) (d : UInt8) : ((b[0].toNat : Int) == d.toNat) = decide (b.data.toList.head? = some d) := by
  have := ba_at b 0 h
  rw [← List.head?_eq_getElem?] at this
  rw [this]
  by_cases e : b[0] = d
  · rw [e]; simp
  · have : b[0].toNat ≠ d.toNat := fun h => e (UInt8.toNat_inj.1 h)
    have h1 : ((b[0].toNat : Int) == d.toNat) = false := by rw [beq_eq_false_iff_ne]; omega
    rw [h1]
    simp [e]
theorem empty_bs {b : ByteArray} (h : b.size = 0) : b.toList = [] ∧ b.data.toList = [] := by
  have h1 : b.data.toList = [] := List.eq_nil_of_length_eq_zero (by rw [ba_len]; exact h)
  exact ⟨by rw [toList_data]; exact h1, h1⟩
theorem nonempty_bs {b : ByteArray} (h : 0 < b.size) : (b.toList == []) = false := by
  rw [beq_eq_false_iff_ne, toList_data]
  intro e
  have := ba_len b
  rw [e] at this
  simp at this; omega
set_option maxHeartbeats 4000000 in
set_option maxRecDepth 100000 in
theorem rline_any (b : ByteArray) (w : World) (hl : b.size ≤ 100000) : Calls Tryd.prog 8 #[.string b] w (RetW (lineV (lineF b.data.toList)) fun w' => Chg NoB w w') := by
  have HC0 := Lib.hid ((Chg.refl NoB w).alloc (.cells zact 23))
  have HB0 := Lib.hid (Blk.new w zact 23)
  have H0 := Lib.hid (words_any b (w.alloc (.cells zact 23)) hl)
  have HLN : Hid (b.data.toList.length ≤ 100000) := Lib.hid (by rw [ba_len]; exact hl)
  have HLI : Hid (∀ ws, wordsF 32 b.data.toList = ws → lineF b.data.toList = match timesF ws with | none => none | some (n, ws) => match actW ws with | none => none | some a => some (a, n)) := Lib.hid (fun ws h => by rw [← h]; rfl)
  obtain ⟨ws, hws⟩ : ∃ ws, wordsF 32 b.data.toList = ws := ⟨_, rfl⟩
  obtain ⟨m, hm⟩ : ∃ m, ws.length = m + 1 := ⟨b.data.toList.count 32, by rw [← hws, words_len]⟩
  have HWL : Hid (∀ x ∈ ws, x.length ≤ 100000) := Lib.hid (fun x hx => word_len (c := 32) (by rw [hws]; exact hx) HLN.out)
  have hm1 : m ≤ 100000 := by
    have h1 := words_len (c := 32) b.data.toList
    have h2 := List.count_le_length (a := (32 : UInt8)) (l := b.data.toList)
    have h3 := HLN.out
    rw [hws] at h1
    omega
  rw [hws, hm] at H0
  have HLF := Lib.hid (HLI.out ws hws)
  have HM := Lib.hid hm
  have HLAST := Lib.hid (last_at hm)
  clear hws hm HLI
  go_enter Tryd.func8, Tryd.ntmps8
  go_wp2_with fail
  refine H0.out.mono ?_
  rintro e w1 ⟨v, rfl, hO, C1⟩
  have HC1 := Lib.hid (HC0.out.step C1)
  have HB1 := Lib.hid (C1.blk0 HB0.out)
  obtain ⟨g, off, c, rfl, -, hg1, hc1, hcell, -⟩ := hO.spot (by omega)
  have hg : g < w1.heap.size := hg1
  have HW := Lib.hid hcell
  have HX := Lib.hid (HW.out m _ (by rw [List.getElem?_map, HLAST.out]; rfl))
  have hlen := HWL.out _ (List.mem_of_getElem? HLAST.out)
  clear hO C1 hg1 hcell
  have x0 := HX.out
  unfold bsv at x0
  have hX : Hid (∃ l : ByteArray, ws.getLastD [] = l.data.toList) := Lib.hid ⟨⟨(ws.getLastD []).toArray⟩, rfl⟩
  obtain ⟨last, hlast⟩ := hX.out
  rw [hlast] at x0 HX HLAST hlen
  replace x0 : w1.cell? ⟨g, off + m, none⟩ = some (.string last) := by rw [x0, ← ba_list last]
  have HLE := Lib.hid hlast
  rw [ba_len] at hlen
  clear hlast hX
  have m0 : (0 : Int) ≤ m := by omega
  go_upto_region 4 with fail
  go_cut [37] (fun v wx => v = .bool (decide (1 ≤ m ∧ last.data.toList.head? = some 120)) ∧ wx = w1)
  case first =>
    by_cases h1 : 1 ≤ m
    · have t0 : decide (0 < (m : Int)) = true := by simp; omega
      have t1 : decide (0 < m) = true := by simp; omega
      rcases Nat.eq_zero_or_pos last.size with h2 | h2
      · obtain ⟨e1, e2⟩ := empty_bs h2
        have t2 : (last.toList == []) = true := by rw [e1]; rfl
        have HE : Hid (decide (1 ≤ m ∧ last.data.toList.head? = some 120) = false) := Lib.hid (by rw [e2]; simp)
        clear e1 e2 h2 h1
        go_wp2_with fail
        go_meet
        exact ⟨by rw [HE.out], rfl⟩
      · have t2 := nonempty_bs h2
        have t3 := head_at last h2 120
        rw [show (((120 : UInt8).toNat : Nat) : Int) = 120 from rfl] at t3
        have HE : Hid (decide (1 ≤ m ∧ last.data.toList.head? = some 120) = decide (last.data.toList.head? = some 120)) := Lib.hid (by simp [h1])
        obtain ⟨β, hβ⟩ : ∃ β, decide (last.data.toList.head? = some 120) = β := ⟨_, rfl⟩
        rw [hβ] at t3 HE
        clear hβ h1
        go_wp2_with fail
        go_meet
        exact ⟨by rw [HE.out], rfl⟩
    · obtain rfl : m = 0 := by omega
      have HE : Hid (decide (1 ≤ 0 ∧ last.data.toList.head? = some 120) = false) := Lib.hid (by simp)
      go_wp2_with fail
      go_meet
      exact ⟨by rw [HE.out], rfl⟩
  case rest =>
    obtain ⟨rfl, hwc⟩ := hcut
    subst hwc
    obtain ⟨β, hβ⟩ : ∃ β, decide (1 ≤ m ∧ last.data.toList.head? = some 120) = β := ⟨_, rfl⟩
    rw [hβ]
    have HBE := Lib.hid hβ
    clear hβ
    go_upto_if 37 with fail
    go_cut [4, 5, 7, 8] (fun wv nv _ _ wx => ∃ (n : Nat) (y : Bs) (ys : List Bs), wv = .slice (some ⟨g, off, none⟩) (ys.length + 1) c ∧ nv = .int .i64 n ∧ timesF ws = some (n, y :: ys) ∧ ws.take (ys.length + 1) = y :: ys ∧ ys.length ≤ m ∧ wx = wc)
    case first =>
      cases β
      · have hb : ¬ (1 ≤ m ∧ (ws.getLastD []).head? = some 120) := by rw [HLE.out]; exact of_decide_eq_false HBE.out
        obtain ⟨y, ys, rfl⟩ : ∃ y ys, ws = y :: ys := by
          cases ws with
          | nil => have := HM.out; simp at this
          | cons y ys => exact ⟨y, ys, rfl⟩
        have hm2 := HM.out
        simp only [List.length_cons] at hm2
        obtain rfl : m = ys.length := by omega
        have HT := Lib.hid (timesF_one HM.out hb)
        clear hb hm2
        go_wp2_with fail
        go_meet
        exact ⟨1, y, ys, rfl, rfl, HT.out, by simp, Nat.le_refl _, rfl⟩
      · have hb : 1 ≤ m ∧ (ws.getLastD []).head? = some 120 := by rw [HLE.out]; exact of_decide_eq_true HBE.out
        have hlp : 0 < last.size := by
          rcases Nat.eq_zero_or_pos last.size with h | h
          · have := hb.2
            rw [HLE.out, (empty_bs h).2] at this
            cases this
          · exact h
        have e1 : (last.extract 1 last.size).data.toList = (ws.getLastD []).drop 1 := by
          rw [HLE.out]
          have := ba_extract last 1 last.size
          unfold bsv at this
          injection this with this
          rw [this]
          show (last.data.toList.drop 1).take (last.size - 1) = _
          exact List.take_of_length_le (by rw [List.length_drop, ba_len]; exact Nat.le_refl _)
        have HNU := Lib.hid fun w => rnumber_any (last.extract 1 last.size) w (by rw [ByteArray.size_extract]; omega)
        rw [e1] at HNU
        have l1 : (1 : Int) ≤ last.size := by omega
        have hm2 : (m : Int) + 1 ≤ c := by omega
        clear e1
        cases hq : numF ((ws.getLastD []).drop 1) with
        | none =>
          have HF : Hid (lineF b.data.toList = none) := Lib.hid (by rw [HLF.out, timesF_bad HM.out hb (.inl hq)])
          obtain ⟨nn, hn⟩ := numRV_none hq
          rw [hn] at HNU
          clear hq hn hb
          have z0 := HB1.out.cell' (i := 0) (v := .int .i64 0) rfl
          have z1 := HB1.out.cell' (i := 1) (v := .int .i64 0) rfl
          have z2 := HB1.out.cell' (i := 2) (v := .int .i64 0) rfl
          have zf := fun i => HB1.out.frozen i
          go_wp2_with fail
          with_reducible refine (HNU.out _).mono ?_
          rintro e w2 ⟨rfl, hw2⟩
          subst hw2
          go_wp2_with fail
          refine bodyPost_ret (v := .tuple #[.agg zact, .int .i64 0]) (by simp [results, Tryd.results8, go_sem, z0, z1, z2, zact]) rfl ⟨by rw [HF.out]; rfl, ?_⟩
          exact ((HC1.out.setCell (.inr (Nat.le_refl _)) _).setCell (.inr (Nat.le_refl _)) _).setCell (.inr (Nat.le_refl _)) _
        | some nn =>
          rw [numRV_some hq] at HNU
          by_cases h3 : nn < 2 ∨ 100000 < nn
          · have HF : Hid (lineF b.data.toList = none) := Lib.hid (by rw [HLF.out, timesF_bad HM.out hb (.inr ⟨nn, hq, h3⟩)])
            cases u0 : decide (nn < 2)
            · have u1 : decide (100000 < nn) = true := by simp at u0 ⊢; omega
              clear hq hb h3
              have z0 := HB1.out.cell' (i := 0) (v := .int .i64 0) rfl
              have z1 := HB1.out.cell' (i := 1) (v := .int .i64 0) rfl
              have z2 := HB1.out.cell' (i := 2) (v := .int .i64 0) rfl
              have zf := fun i => HB1.out.frozen i
              go_wp2_with fail
              with_reducible refine (HNU.out _).mono ?_
              rintro e w2 ⟨rfl, hw2⟩
              subst hw2
              go_wp2_with fail
              refine bodyPost_ret (v := .tuple #[.agg zact, .int .i64 0]) (by simp [results, Tryd.results8, go_sem, z0, z1, z2, zact]) rfl ⟨by rw [HF.out]; rfl, ?_⟩
              exact ((HC1.out.setCell (.inr (Nat.le_refl _)) _).setCell (.inr (Nat.le_refl _)) _).setCell (.inr (Nat.le_refl _)) _
            · clear hq hb h3
              have z0 := HB1.out.cell' (i := 0) (v := .int .i64 0) rfl
              have z1 := HB1.out.cell' (i := 1) (v := .int .i64 0) rfl
              have z2 := HB1.out.cell' (i := 2) (v := .int .i64 0) rfl
              have zf := fun i => HB1.out.frozen i
              go_wp2_with fail
              with_reducible refine (HNU.out _).mono ?_
              rintro e w2 ⟨rfl, hw2⟩
              subst hw2
              go_wp2_with fail
              refine bodyPost_ret (v := .tuple #[.agg zact, .int .i64 0]) (by simp [results, Tryd.results8, go_sem, z0, z1, z2, zact]) rfl ⟨by rw [HF.out]; rfl, ?_⟩
              exact ((HC1.out.setCell (.inr (Nat.le_refl _)) _).setCell (.inr (Nat.le_refl _)) _).setCell (.inr (Nat.le_refl _)) _
          · have u0 : decide (nn < 2) = false := by simp; omega
            have u1 : decide (100000 < nn) = false := by simp; omega
            obtain ⟨y, ys, hy⟩ : ∃ y ys, ws.take m = y :: ys := by
              cases h : ws.take m with
              | nil =>
                have := congrArg List.length h
                rw [List.length_take, HM.out] at this
                have := hb.1
                simp at *; omega
              | cons y ys => exact ⟨y, ys, rfl⟩
            have hyl : ys.length + 1 = m := by
              have := congrArg List.length hy
              rw [List.length_take, HM.out] at this
              simp at this; omega
            have HT : Hid (timesF ws = some (nn.toNat, y :: ys)) := Lib.hid (by rw [timesF_n HM.out hb hq h3, hy])
            have HY : Hid (ws.take (ys.length + 1) = y :: ys) := Lib.hid (by rw [hyl]; exact hy)
            have HYL := Lib.hid hyl
            obtain ⟨nk, rfl⟩ : ∃ nk : Nat, nn = nk := ⟨nn.toNat, by omega⟩
            clear hq hb h3 hy hyl
            go_wp2_with fail
            with_reducible refine (HNU.out _).mono ?_
            rintro e w2 ⟨rfl, hw2⟩
            subst hw2
            go_wp2_with fail
            go_meet
            exact ⟨nk, y, ys, by rw [HYL.out], rfl, HT.out, HY.out, by have := HYL.out; omega, rfl⟩
    case rest =>
      obtain ⟨n, y, ys, rfl, rfl, ht, hy, hyl, hwx⟩ := hcut
      subst hwx
      have HT := Lib.hid ht
      have HYW : Hid (∀ x ∈ ys, x.length ≤ 100000) := Lib.hid fun x hx => HWL.out x (List.mem_of_mem_take (i := ys.length + 1) (by rw [hy]; exact List.mem_cons_of_mem _ hx))
      have hyc : ys.length + 1 ≤ c := by omega
      have HW2 : Hid (∀ (j : Nat) (z : Bs), (y :: ys)[j]? = some z → wc.cell? ⟨g, off + j, none⟩ = some (bsv z)) := Lib.hid fun j z hz => by
        refine HW.out j _ ?_
        have hj := (List.getElem?_eq_some_iff.1 hz).1
        simp only [List.length_cons] at hj
        rw [← hy, List.getElem?_take, if_pos hj] at hz
        rw [List.getElem?_map, hz]
        rfl
      clear ht hy HBE x0 HX HLAST HLE
      go_wp2_with fail
      with_reducible refine (names3 _).mono ?_
      rintro e wN ⟨rfl, CN, hnm⟩
      have HNM := Lib.hid hnm
      have HWN : Hid (∀ (j : Nat) (z : Bs), (y :: ys)[j]? = some z → wN.cell? ⟨g, off + j, none⟩ = some (bsv z)) := Lib.hid fun j z hz => CN.cell (HW2.out j z hz) id
      have HC2 := Lib.hid (HC1.out.step CN)
      have HB2 := Lib.hid (CN.blk0 HB1.out)
      have hgN : g < wN.heap.size := Nat.lt_of_lt_of_le hg CN.size
      clear CN hnm
      go_wp2_with fail
      go_loopg [64, 9, 10] 7 (fun gk ix _ _ wr => ∃ k : Nat, k + gk = 7 ∧ ix = .int .i64 k ∧ Chg NoB w wr ∧ Chg NoB wN wr ∧ Blk wr w.heap.size zact 23 ∧ ∀ j < k, ¬ (nameF j = y ∧ ys.length = cntF j))
      case atStart => exact ⟨0, rfl, rfl, HC2.out, Chg.refl _ _, HB2.out, by omega⟩
      case round =>
        obtain ⟨k, hk, rfl, hC, hCN, hB, hno⟩ := hrel
        rename World => wr
        have HK := Lib.hid hk
        have HC := Lib.hid hC
        have HCN := Lib.hid hCN
        have HBB := Lib.hid hB
        have HNO := Lib.hid hno
        have hk7 : k ≤ 7 := by omega
        clear hk hC hCN hB hno
        by_cases hlt : k < 7
        · have k1 : (k : Int) < 7 := by omega
          have k0 : (0 : Int) ≤ k := by omega
          have kc : (cntF k : Int) ≤ 2 ∧ (0 : Int) ≤ cntF k := by have := cnt_le hlt; omega
          have x0 := HCN.out.cell (HNM.out k hlt) id
          have x1 := HCN.out.cell (HWN.out 0 y rfl) id
          rw [Nat.add_zero] at x1
          unfold bsv at x1
          have HCT := Lib.hid fun w => count_any k hlt w
          cases q0 : (nameF k == y)
          · go_wp2_with fail
            go_roundg (7 - (k + 1))
            case measure => have := HK.out; omega
            case rel => exact ⟨k + 1, by have := HK.out; omega, by go_num, HC.out, HCN.out, HBB.out, fun j hj => by
              rcases Nat.lt_or_ge j k with h | h
              · exact HNO.out j h
              · obtain rfl : j = k := by omega
                rw [name_eq, decide_eq_false_iff_not] at q0
                exact fun h => q0 h.1⟩
          · cases q1 : ((ys.length : Int) + 1 == (cntF k : Int) + 1)
            · have q2 : ((ys.length : Int) + 1 != (cntF k : Int) + 1) = true := by simp only [bne, q1]; rfl
              go_wp2_with fail
              with_reducible refine (HCT.out _).mono ?_
              rintro e w3 ⟨rfl, C3⟩
              have HC3 := Lib.hid (HC.out.step C3)
              have HCN3 := Lib.hid (HCN.out.step C3)
              have HZ3 := Lib.hid (C3.blk0 HBB.out)
              clear C3
              go_wp2_with fail
              go_roundg (7 - (k + 1))
              case measure => have := HK.out; omega
              case rel => exact ⟨k + 1, by have := HK.out; omega, by go_num, HC3.out, HCN3.out, HZ3.out, fun j hj => by
                rcases Nat.lt_or_ge j k with h | h
                · exact HNO.out j h
                · obtain rfl : j = k := by omega
                  rw [beq_eq_false_iff_ne] at q1
                  exact fun h => q1 (by omega)⟩
            · have q2 : ((ys.length : Int) + 1 != (cntF k : Int) + 1) = false := by simp only [bne, q1]; rfl
              have hm2 : nameF k = y ∧ ys.length = cntF k := by
                rw [name_eq, decide_eq_true_eq] at q0
                rw [beq_iff_eq] at q1
                exact ⟨q0, by omega⟩
              have HKF := Lib.hid (kindF_some hlt hm2 HNO.out)
              have hw2 : ys.length ≤ 2 := by have := cnt_le hlt; omega
              clear hm2
              rcases Nat.lt_or_ge 1 c with hc1 | hc1
              · have hc2 : ¬ c = 1 := by omega
                go_wp2_with fail
                with_reducible refine (HCT.out _).mono ?_
                rintro e w3 ⟨rfl, C3⟩
                have HC3 := Lib.hid (HC.out.step C3)
                have HCN3 := Lib.hid (HCN.out.step C3)
                have HZ3 := Lib.hid (C3.blk0 HBB.out)
                have HBA : Hid (w.heap.size ≤ w3.heap.size) := Lib.hid HC3.out.size
                have HBN : Hid (wN.heap.size ≤ w3.heap.size) := Lib.hid HCN3.out.size
                have HBA2 : Hid (w.heap.size < w3.heap.size) := Lib.hid HZ3.out.lt
                have hgw3 : w.heap.size < w3.heap.size := HZ3.out.lt
                clear C3
                go_wp2_with fail
                have HWA := Lib.hid (Blk.new w3 #[.int .i64 k, .int .i64 0, .int .i64 0] 23)
                have HC3a := Lib.hid (HC3.out.alloc (.cells #[.int .i64 k, .int .i64 0, .int .i64 0] 23))
                have HCN3a := Lib.hid (HCN3.out.alloc (.cells #[.int .i64 k, .int .i64 0, .int .i64 0] 23))
                have HZ3a := Lib.hid (HZ3.out.alloc (.cells #[.int .i64 k, .int .i64 0, .int .i64 0] 23))
                go_loopg [87, 12, 13, 14, 15] ys.length (fun gm jx _ _ _ _ wi => ∃ (i : Nat) (l : List Int), i + gm = ys.length ∧ jx = .int .i64 i ∧ l.length = i ∧ numsF (ys.take i) = some l ∧ Chg NoB w wi ∧ Chg NoB wN wi ∧ Blk wi w.heap.size zact 23 ∧ Blk wi w3.heap.size #[.int .i64 k, .int .i64 (l.getD 0 0), .int .i64 (l.getD 1 0)] 23)
                case atStart => exact ⟨0, [], by omega, rfl, rfl, rfl, HC3a.out, HCN3a.out, HZ3a.out, HWA.out⟩
                case round =>
                  obtain ⟨i, l, hi, rfl, hll, hn, hCi, hCNi, hZi, hTi⟩ := hrel
                  rename World => wi
                  have HI := Lib.hid hi
                  have HLL := Lib.hid hll
                  have HN := Lib.hid hn
                  have HCi := Lib.hid hCi
                  have HCNi := Lib.hid hCNi
                  have HZi := Lib.hid hZi
                  have HTi := Lib.hid hTi
                  have hil : i ≤ ys.length := by omega
                  clear hi hll hn hCi hCNi hZi hTi
                  by_cases hlt2 : i < ys.length
                  · obtain ⟨z, hz⟩ : ∃ z, ys[i]? = some z := ⟨ys[i], by simp [hlt2]⟩
                    have i0 : (0 : Int) ≤ i := by omega
                    have i1 : (i : Int) < ys.length := by omega
                    have hx := HCNi.out.cell (HWN.out (i + 1) z (by rw [List.getElem?_cons_succ]; exact hz)) id
                    unfold bsv at hx
                    rw [show off + (i + 1) = off + 1 + i by omega] at hx
                    have hzl := HYW.out z (List.mem_of_getElem? hz)
                    have HNU := Lib.hid fun w => rnumber_any ⟨z.toArray⟩ w (by show z.toArray.size ≤ _; simpa using hzl)
                    simp only [bl_data] at HNU
                    have HYY := Lib.hid hz
                    clear hz hzl
                    cases hq : numF z with
                    | none =>
                      have HF : Hid (lineF b.data.toList = none) := Lib.hid (by rw [HLF.out, HT.out]; simp only; rw [actW_nob (List.mem_of_getElem? HYY.out) hq])
                      obtain ⟨nn, hn⟩ := numRV_none hq
                      rw [hn] at HNU
                      clear hq hn
                      have z0 := HZi.out.cell' (i := 0) (v := .int .i64 0) rfl
                      have z1 := HZi.out.cell' (i := 1) (v := .int .i64 0) rfl
                      have z2 := HZi.out.cell' (i := 2) (v := .int .i64 0) rfl
                      have zf := fun i => HZi.out.frozen i
                      go_wp2_with fail
                      with_reducible refine (HNU.out _).mono ?_
                      rintro e w4 ⟨rfl, hw4⟩
                      subst hw4
                      go_wp2_with fail
                      refine bodyPost_ret (v := .tuple #[.agg zact, .int .i64 0]) (by simp [results, Tryd.results8, go_sem, z0, z1, z2, zact]) rfl ⟨by rw [HF.out]; rfl, ?_⟩
                      exact ((HCi.out.setCell (.inr (Nat.le_refl _)) _).setCell (.inr (Nat.le_refl _)) _).setCell (.inr (Nat.le_refl _)) _
                    | some nn =>
                      rw [numRV_some hq] at HNU
                      have HNN := Lib.hid (nums_take HN.out HYY.out hq)
                      clear hq
                      rcases (by omega : i = 0 ∨ i = 1) with rfl | rfl
                      · obtain rfl : l = [] := List.eq_nil_of_length_eq_zero HLL.out
                        have t1 := HTi.out.cell' (i := 1) (v := .int .i64 0) rfl
                        have tf := fun i => HTi.out.frozen i
                        go_wp2_with fail
                        with_reducible refine (HNU.out _).mono ?_
                        rintro e w4 ⟨rfl, hw4⟩
                        subst hw4
                        go_wp2_with fail
                        go_roundg (ys.length - 1)
                        case measure => have := HI.out; omega
                        case rel => exact ⟨1, [nn], by have := HI.out; omega, rfl, rfl, HNN.out, HCi.out.setCell (.inr HBA.out) _, HCNi.out.setCell (.inr HBN.out) _, HZi.out.set_ne (by have := HBA2.out; show w.heap.size ≠ w3.heap.size; omega) _, HTi.out.set 1 _⟩
                      · obtain ⟨l0, rfl⟩ : ∃ l0, l = [l0] := by
                          have := HLL.out
                          match l, this with
                          | [a], _ => exact ⟨a, rfl⟩
                        have t1 := HTi.out.cell' (i := 2) (v := .int .i64 0) rfl
                        have tf := fun i => HTi.out.frozen i
                        go_wp2_with fail
                        with_reducible refine (HNU.out _).mono ?_
                        rintro e w4 ⟨rfl, hw4⟩
                        subst hw4
                        go_wp2_with fail
                        go_roundg (ys.length - 2)
                        case measure => have := HI.out; omega
                        case rel => exact ⟨2, [l0, nn], by have := HI.out; omega, rfl, rfl, HNN.out, HCi.out.setCell (.inr HBA.out) _, HCNi.out.setCell (.inr HBN.out) _, HZi.out.set_ne (by have := HBA2.out; show w.heap.size ≠ w3.heap.size; omega) _, HTi.out.set 2 _⟩
                  · obtain rfl : i = ys.length := by omega
                    have hnn := HN.out
                    rw [List.take_length] at hnn
                    have HF : Hid (lineF b.data.toList = some (((k : Int), l.getD 0 0, l.getD 1 0), n)) := Lib.hid (by rw [HLF.out, HT.out]; simp only; rw [actW_is HKF.out hnn])
                    clear hnn
                    have z0 := HZi.out.cell' (i := 0) (v := .int .i64 0) rfl
                    have z1 := HZi.out.cell' (i := 1) (v := .int .i64 0) rfl
                    have z2 := HZi.out.cell' (i := 2) (v := .int .i64 0) rfl
                    have zf := fun i => HZi.out.frozen i
                    have t0 := HTi.out.cell' (i := 0) (v := .int .i64 k) rfl
                    have t1 := HTi.out.cell' (i := 1) (v := .int .i64 (l.getD 0 0)) rfl
                    have t2 := HTi.out.cell' (i := 2) (v := .int .i64 (l.getD 1 0)) rfl
                    go_wp2_with fail
                    refine bodyPost_ret (v := .tuple #[.agg #[.int .i64 k, .int .i64 (l.getD 0 0), .int .i64 (l.getD 1 0)], .int .i64 n]) (by simp [results, Tryd.results8, go_sem, z0, z1, z2, zf]) rfl ⟨by rw [HF.out]; rfl, ?_⟩
                    exact ((HCi.out.setCell (.inr (Nat.le_refl _)) _).setCell (.inr (Nat.le_refl _)) _).setCell (.inr (Nat.le_refl _)) _
              · obtain rfl : ys = [] := List.eq_nil_of_length_eq_zero (by omega)
                obtain rfl : c = 1 := by simp only [List.length_nil] at hyc; omega
                have q3 : ((1 : Int) != (cntF k : Int) + 1) = false := by
                  rw [beq_iff_eq] at q1
                  simp only [List.length_nil] at q1
                  simp only [bne_eq_false_iff_eq]; omega
                clear q1 q2
                have HF : Hid (lineF b.data.toList = some (((k : Int), 0, 0), n)) := Lib.hid (by rw [HLF.out, HT.out]; simp only; rw [actW_is (l := []) HKF.out rfl]; rfl)
                go_wp2_with fail
                with_reducible refine (HCT.out _).mono ?_
                rintro e w3 ⟨rfl, C3⟩
                have HC3 := Lib.hid (HC.out.step C3)
                have HCN3 := Lib.hid (HCN.out.step C3)
                have HZ3 := Lib.hid (C3.blk0 HBB.out)
                have HBA : Hid (w.heap.size ≤ w3.heap.size) := Lib.hid HC3.out.size
                have HBN : Hid (wN.heap.size ≤ w3.heap.size) := Lib.hid HCN3.out.size
                have HBA2 : Hid (w.heap.size < w3.heap.size) := Lib.hid HZ3.out.lt
                have hgw3 : w.heap.size < w3.heap.size := HZ3.out.lt
                clear C3
                go_wp2_with fail
                have HWA := Lib.hid (Blk.new w3 #[.int .i64 k, .int .i64 0, .int .i64 0] 23)
                have HC3a := Lib.hid (HC3.out.alloc (.cells #[.int .i64 k, .int .i64 0, .int .i64 0] 23))
                have HZ3a := Lib.hid (HZ3.out.alloc (.cells #[.int .i64 k, .int .i64 0, .int .i64 0] 23))
                go_loopg [87] 0 (fun gm jx wi => jx = .int .i64 0 ∧ Chg NoB w wi ∧ Blk wi w.heap.size zact 23 ∧ Blk wi w3.heap.size #[.int .i64 k, .int .i64 0, .int .i64 0] 23)
                case atStart => exact ⟨rfl, HC3a.out, HZ3a.out, HWA.out⟩
                case round =>
                  obtain ⟨rfl, hCi, hZi, hTi⟩ := hrel
                  rename World => wi
                  have HCi := Lib.hid hCi
                  have HZi := Lib.hid hZi
                  have HTi := Lib.hid hTi
                  clear hCi hZi hTi
                  have z0 := HZi.out.cell' (i := 0) (v := .int .i64 0) rfl
                  have z1 := HZi.out.cell' (i := 1) (v := .int .i64 0) rfl
                  have z2 := HZi.out.cell' (i := 2) (v := .int .i64 0) rfl
                  have zf := fun i => HZi.out.frozen i
                  have t0 := HTi.out.cell' (i := 0) (v := .int .i64 k) rfl
                  have t1 := HTi.out.cell' (i := 1) (v := .int .i64 0) rfl
                  have t2 := HTi.out.cell' (i := 2) (v := .int .i64 0) rfl
                  go_wp2_with fail
                  refine bodyPost_ret (v := .tuple #[.agg #[.int .i64 k, .int .i64 0, .int .i64 0], .int .i64 n]) (by simp [results, Tryd.results8, go_sem, z0, z1, z2, zf]) rfl ⟨by rw [HF.out]; rfl, ?_⟩
                  exact ((HCi.out.setCell (.inr (Nat.le_refl _)) _).setCell (.inr (Nat.le_refl _)) _).setCell (.inr (Nat.le_refl _)) _
        · obtain rfl : k = 7 := by omega
          have HF : Hid (lineF b.data.toList = none) := Lib.hid (by rw [HLF.out, HT.out]; simp only; rw [actW_no (kindF_none HNO.out)])
          have z0 := HBB.out.cell' (i := 0) (v := .int .i64 0) rfl
          have z1 := HBB.out.cell' (i := 1) (v := .int .i64 0) rfl
          have z2 := HBB.out.cell' (i := 2) (v := .int .i64 0) rfl
          have zf := fun i => HBB.out.frozen i
          go_wp2_with fail
          refine bodyPost_ret (v := .tuple #[.agg zact, .int .i64 0]) (by simp [results, Tryd.results8, go_sem, z0, z1, z2, zact]) rfl ⟨by rw [HF.out]; rfl, ?_⟩
          exact ((HC.out.setCell (.inr (Nat.le_refl _)) _).setCell (.inr (Nat.le_refl _)) _).setCell (.inr (Nat.le_refl _)) _
end Go.Proofs.YtfidiiifcmmffaaDoor
