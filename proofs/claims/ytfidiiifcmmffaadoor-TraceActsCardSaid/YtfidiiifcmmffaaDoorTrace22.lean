/- TraceActs returns true, whatever it is given. No condition. -/
import Derived.Test.YtfidiiifcmmffaaDoorTrace21
import Derived.Test.YtfidiiifcmmffaaDoorTrace14
set_option linter.unusedVariables false
set_option linter.unusedSimpArgs false
namespace Go.Proofs.YtfidiiifcmmffaaDoor
open Go.RowKit Go.RR

set_option maxHeartbeats 8000000 in
set_option maxRecDepth 100000 in
theorem traceActs_any (a : Ac) (s : ByteArray) (w : World) (ha : i64A a) (hs : s.size ≤ maxLen) (L : Lb w) : Calls Tryd.prog 3 #[.agg #[.int .i64 a.1, .int .i64 a.2.1, .int .i64 a.2.2], .string s] w (RetW (.bool true) fun w' => Chg NoB w w') := by
  obtain ⟨ka, xa, ya⟩ := a
  have HC0 := Lib.hid ((Chg.refl NoB w).alloc (.cells #[.int .i64 ka, .int .i64 xa, .int .i64 ya] 23))
  have HB0 := Lib.hid (Blk.new w #[.int .i64 ka, .int .i64 xa, .int .i64 ya] 23)
  have HL := Lib.hid L
  have HA := Lib.hid ha
  have hs0 : (s.size : Int) ≤ 9223372036854775807 := by unfold maxLen at hs; omega
  clear L ha hs
  simp only
  go_enter Tryd.func3, Tryd.ntmps3
  go_wp2_with fail
  refine (first34_any _ (HL.out.chg0 HC0.out)).mono ?_
  rintro e w1 ⟨rfl, C1⟩
  have HC1 := Lib.hid (HC0.out.step C1)
  have HB1 := Lib.hid (C1.blk0 HB0.out)
  clear C1
  by_cases hbig : 60 < s.size
  · have t0 : decide (60 < (s.size : Int)) = true := by simp; omega
    have t1 : decide (60 < s.size) = true := by simp; omega
    go_wp2_with fail
    go_ret
    exact ⟨rfl, HC1.out⟩
  · have t0 : decide (60 < (s.size : Int)) = false := by simp; omega
    have t1 : decide (60 < s.size) = false := by simp; omega
    have H2 := line_any s.data.toList w1 (by rw [ba_len]; omega) (HL.out.chg0 HC1.out)
    rw [← ba_list s] at H2
    have HH2 := Lib.hid H2
    clear H2
    go_wp2_with fail
    with_reducible refine HH2.out.mono ?_
    rintro e w2 ⟨v, rfl, C2, hcase⟩
    have HC2 := Lib.hid (HC1.out.step C2)
    have HB2 := Lib.hid (C2.blk0 HB1.out)
    clear C2
    have HTA : Hid (∀ w' : World, Chg NoB w w' → Calls Tryd.prog 9 #[.agg #[.int .i64 ka, .int .i64 xa, .int .i64 ya]] w' (RetW (.string ⟨(actF (ka, xa, ya)).toArray⟩) fun w'' => Chg NoB w' w'')) := Lib.hid fun w' c => tact_any ka xa ya w' HA.out.2.1 HA.out.2.2 HA.out.1 (HL.out.chg0 c)
    have HRA : Hid (∀ w' : World, Calls Tryd.prog 10 #[.agg #[.int .i64 ka, .int .i64 xa, .int .i64 ya]] w' (RetW (.string ⟨(actF (ka, xa, ya)).toArray⟩) fun w'' => Chg NoB w' w'')) := Lib.hid fun w' => ract_any ka xa ya w' HA.out.2.1 HA.out.2.2 HA.out.1
    have HRL := Lib.hid (rline_any s w2 (by omega))
    rcases hcase with ⟨hn, rfl⟩ | ⟨b, n, q, hn, rfl, hn1, hn0, hO⟩
    · rw [hn] at HRL
      simp only [lineV, zact] at HRL
      clear hn
      go_wp2_with fail
      with_reducible refine HRL.out.mono ?_
      rintro e w3 ⟨rfl, C3⟩
      have HC3 := Lib.hid (HC2.out.step C3)
      have HB3 := Lib.hid (C3.blk0 HB2.out)
      clear C3
      go_wp2_with fail
      have HC3b := Lib.hid (HC3.out.alloc (.cells #[.int .i64 0, .int .i64 0, .int .i64 0] 23))
      have HB3b := Lib.hid (HB3.out.alloc (.cells #[.int .i64 0, .int .i64 0, .int .i64 0] 23))
      have HBb := Lib.hid (Blk.new w3 #[.int .i64 0, .int .i64 0, .int .i64 0] 23)
      have z0 := (HB3b.out.drew).cell' (i := 0) (v := .int .i64 ka) rfl
      have z1 := (HB3b.out.drew).cell' (i := 1) (v := .int .i64 xa) rfl
      have z2 := (HB3b.out.drew).cell' (i := 2) (v := .int .i64 ya) rfl
      have cX := HC3b.out.drew
      have cZ : Chg NoB (w3.alloc (.cells #[.int .i64 0, .int .i64 0, .int .i64 0] 23)) (w3.alloc (.cells #[.int .i64 0, .int .i64 0, .int .i64 0] 23)).drew := (Chg.refl NoB _).drew
      go_region_held3 (fun w' => w'.cell? ⟨w.heap.size, 0, none⟩ = some (.int .i64 ka) ∧ w'.cell? ⟨w.heap.size, 1, none⟩ = some (.int .i64 xa) ∧ w'.cell? ⟨w.heap.size, 2, none⟩ = some (.int .i64 ya) ∧ Chg NoB w w' ∧ Chg NoB (w3.alloc (.cells #[.int .i64 0, .int .i64 0, .int .i64 0] 23)) w') (exact ⟨by assumption, by assumption, by assumption, by assumption, by assumption⟩)
        ((first | (go_at_call 9; (with_reducible refine (HTA.out _ (by assumption)).mono ?_); rintro e wa ⟨rfl, Ca⟩; have z0 := Ca.cell (a := ⟨w.heap.size, 0, none⟩) (v := .int .i64 ka) (by assumption) id; have z1 := Ca.cell (a := ⟨w.heap.size, 1, none⟩) (v := .int .i64 xa) (by assumption) id; have z2 := Ca.cell (a := ⟨w.heap.size, 2, none⟩) (v := .int .i64 ya) (by assumption) id; have cY : Chg NoB w wa := Chg.step (by assumption) Ca; have cZ : Chg NoB (w3.alloc (.cells #[.int .i64 0, .int .i64 0, .int .i64 0] 23)) wa := by first | exact Chg.step (by assumption) Ca | exact Chg.step ((Chg.refl NoB _).drew) Ca) | (go_at_call 10; (with_reducible refine (HRA.out _).mono ?_); rintro e wa ⟨rfl, Ca⟩; have z0 := Ca.cell (a := ⟨w.heap.size, 0, none⟩) (v := .int .i64 ka) (by assumption) id; have z1 := Ca.cell (a := ⟨w.heap.size, 1, none⟩) (v := .int .i64 xa) (by assumption) id; have z2 := Ca.cell (a := ⟨w.heap.size, 2, none⟩) (v := .int .i64 ya) (by assumption) id; have cY : Chg NoB w wa := Chg.step (by assumption) Ca; have cZ : Chg NoB (w3.alloc (.cells #[.int .i64 0, .int .i64 0, .int .i64 0] 23)) wa := by first | exact Chg.step (by assumption) Ca | exact Chg.step ((Chg.refl NoB _).drew) Ca)))
      have HCE := Lib.hid cY
      clear z0 z1 z2 cX cY cZ
      go_wp2_with fail
      go_loopg [45] 0 (fun g ix wr => ix = .int .i64 0 ∧ Chg NoB w wr)
      case atStart => exact ⟨rfl, HCE.out⟩
      case round =>
        obtain ⟨rfl, hC⟩ := hrel
        have HC := Lib.hid hC
        clear hC
        go_wp2_with fail
        go_ret
        exact ⟨rfl, HC.out⟩
    · rw [hn] at HRL
      simp only [lineV] at HRL
      obtain ⟨kb, xb, yb⟩ := b
      obtain ⟨pq, cq, rfl⟩ := hO.form
      have HO : Hid (AAt w2 (.slice pq n cq) (List.replicate n (kb, xb, yb))) := Lib.hid ⟨_, by rw [List.length_replicate]; exact hO.sl⟩
      have n1 : decide ((0 : Int) < n) = true := by simp; omega
      have n2 : decide (0 < n) = true := by simp; omega
      have nn : (n : Int) ≤ 100000 ∧ (0 : Int) ≤ n := by omega
      clear hO
      simp only at HRL
      clear hn
      go_wp2_with fail
      with_reducible refine HRL.out.mono ?_
      rintro e w3 ⟨rfl, C3⟩
      have HC3 := Lib.hid (HC2.out.step C3)
      have HB3 := Lib.hid (C3.blk0 HB2.out)
      have HO3 := Lib.hid (HO.out.chg0 C3)
      clear C3
      go_wp2_with fail
      have HC3b := Lib.hid (HC3.out.alloc (.cells #[.int .i64 kb, .int .i64 xb, .int .i64 yb] 23))
      have HB3b := Lib.hid (HB3.out.alloc (.cells #[.int .i64 kb, .int .i64 xb, .int .i64 yb] 23))
      have HBb := Lib.hid (Blk.new w3 #[.int .i64 kb, .int .i64 xb, .int .i64 yb] 23)
      have z0 := (HB3b.out.drew).cell' (i := 0) (v := .int .i64 ka) rfl
      have z1 := (HB3b.out.drew).cell' (i := 1) (v := .int .i64 xa) rfl
      have z2 := (HB3b.out.drew).cell' (i := 2) (v := .int .i64 ya) rfl
      have cX := HC3b.out.drew
      have cZ : Chg NoB (w3.alloc (.cells #[.int .i64 kb, .int .i64 xb, .int .i64 yb] 23)) (w3.alloc (.cells #[.int .i64 kb, .int .i64 xb, .int .i64 yb] 23)).drew := (Chg.refl NoB _).drew
      go_region_held3 (fun w' => w'.cell? ⟨w.heap.size, 0, none⟩ = some (.int .i64 ka) ∧ w'.cell? ⟨w.heap.size, 1, none⟩ = some (.int .i64 xa) ∧ w'.cell? ⟨w.heap.size, 2, none⟩ = some (.int .i64 ya) ∧ Chg NoB w w' ∧ Chg NoB (w3.alloc (.cells #[.int .i64 kb, .int .i64 xb, .int .i64 yb] 23)) w') (exact ⟨by assumption, by assumption, by assumption, by assumption, by assumption⟩)
        ((first | (go_at_call 9; (with_reducible refine (HTA.out _ (by assumption)).mono ?_); rintro e wa ⟨rfl, Ca⟩; have z0 := Ca.cell (a := ⟨w.heap.size, 0, none⟩) (v := .int .i64 ka) (by assumption) id; have z1 := Ca.cell (a := ⟨w.heap.size, 1, none⟩) (v := .int .i64 xa) (by assumption) id; have z2 := Ca.cell (a := ⟨w.heap.size, 2, none⟩) (v := .int .i64 ya) (by assumption) id; have cY : Chg NoB w wa := Chg.step (by assumption) Ca; have cZ : Chg NoB (w3.alloc (.cells #[.int .i64 kb, .int .i64 xb, .int .i64 yb] 23)) wa := by first | exact Chg.step (by assumption) Ca | exact Chg.step ((Chg.refl NoB _).drew) Ca) | (go_at_call 10; (with_reducible refine (HRA.out _).mono ?_); rintro e wa ⟨rfl, Ca⟩; have z0 := Ca.cell (a := ⟨w.heap.size, 0, none⟩) (v := .int .i64 ka) (by assumption) id; have z1 := Ca.cell (a := ⟨w.heap.size, 1, none⟩) (v := .int .i64 xa) (by assumption) id; have z2 := Ca.cell (a := ⟨w.heap.size, 2, none⟩) (v := .int .i64 ya) (by assumption) id; have cY : Chg NoB w wa := Chg.step (by assumption) Ca; have cZ : Chg NoB (w3.alloc (.cells #[.int .i64 kb, .int .i64 xb, .int .i64 yb] 23)) wa := by first | exact Chg.step (by assumption) Ca | exact Chg.step ((Chg.refl NoB _).drew) Ca)))
      have HCE := Lib.hid cY
      have HBE := Lib.hid (cZ.blk0 HBb.out)
      have HOE := Lib.hid ((HO3.out.chg0 ((Chg.refl NoB w3).alloc (.cells #[.int .i64 kb, .int .i64 xb, .int .i64 yb] 23))).chg0 cZ)
      clear z0 z1 z2 cX cY cZ
      go_wp2_with fail
      go_loopg [45, 10] n (fun g ix _ wr => ∃ k : Nat, k + g = n ∧ ix = .int .i64 k ∧ Chg NoB w wr ∧ Blk wr w3.heap.size #[.int .i64 kb, .int .i64 xb, .int .i64 yb] 23 ∧ AAt wr (.slice pq n cq) (List.replicate n (kb, xb, yb)))
      case atStart => exact ⟨0, by omega, rfl, HCE.out, HBE.out, HOE.out⟩
      case round =>
        obtain ⟨k, hk, rfl, hC, hB, hA⟩ := hrel
        rename World => wr
        have HK := Lib.hid hk
        have HC := Lib.hid hC
        have HB := Lib.hid hB
        have HAA := Lib.hid hA
        have hkl : k ≤ n := by omega
        clear hk hC hB hA
        by_cases hlt : k < n
        · obtain ⟨hcap, g, of, rfl, hg, x0, x1, x2⟩ := HAA.out.at (i := k) (a := (kb, xb, yb)) (by rw [List.getElem?_replicate, if_pos hlt])
          have y0 := HB.out.cell' (i := 0) (v := .int .i64 kb) rfl
          have y1 := HB.out.cell' (i := 1) (v := .int .i64 xb) rfl
          have y2 := HB.out.cell' (i := 2) (v := .int .i64 yb) rfl
          have hb3 := HB.out.lt
          have k0 : (0 : Int) ≤ k := by omega
          have k1 : (k : Int) < n := by omega
          have k3 := act_eq (kb, xb, yb) (kb, xb, yb)
          rw [decide_eq_true rfl] at k3
          have k2 := eq_guard
          simp only at x0 x1 x2
          go_wp2_with fail
          go_roundg (n - (k + 1))
          case measure => have := HK.out; omega
          case rel => exact ⟨k + 1, by have := HK.out; omega, by go_num, HC.out.alloc _, HB.out.alloc _, HAA.out.chg0 ((Chg.refl NoB wr).alloc _)⟩
        · obtain rfl : k = n := by omega
          go_wp2_with fail
          go_ret
          exact ⟨rfl, HC.out⟩
end Go.Proofs.YtfidiiifcmmffaaDoor
