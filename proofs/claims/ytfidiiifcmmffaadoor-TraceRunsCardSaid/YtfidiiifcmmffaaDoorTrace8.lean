/- An act of words, by the program: the walk. No condition. -/
import Derived.Test.YtfidiiifcmmffaaDoorTrace7
set_option linter.unusedVariables false
set_option linter.unusedSimpArgs false
namespace Go.Proofs.YtfidiiifcmmffaaDoor
open Go.RowKit Go.RR
set_option maxHeartbeats 4000000 in
set_option maxRecDepth 100000 in
theorem act_any (S : Nat → Prop) (v : Value) (x : Bs) (ws : List Bs) (w : World) (hs : Sl w S 1 v (ws.length + 1) (bsv x :: ws.map bsv)) (hl : ws.length ≤ 100000) (hb : ∀ y ∈ ws, y.length ≤ 100000) (L : Lb w) :
    Calls Tryd.prog 18 #[v] w (RetW (actV (x :: ws)) fun w' => Chg NoB w w') := by
  have A0 := (Chg.refl NoB w).alloc (.cells zact 23)
  have B0 := Blk.new w zact 23
  have HL := Lib.hid L
  have HA := Lib.hid A0
  have HB := Lib.hid B0
  have H0 := Lib.hid (shapes_any (w.alloc (.cells zact 23)))
  have HLB := Lib.hid hb
  obtain ⟨-, p, c, rfl, hc, h2⟩ := hs
  obtain ⟨g, off, rfl, hS, hg, hcell⟩ := h2 (by omega)
  have HS := Lib.hid hcell
  clear A0 B0 L h2 hS hcell hb
  go_enter Tryd.func18, Tryd.ntmps18
  go_wp2_with fail
  refine H0.out.mono ?_
  rintro e w1 ⟨rfl, C1⟩
  have HB1 := Lib.hid (C1.blk0 HB.out)
  have HC1 := Lib.hid (HA.out.step C1)
  clear C1
  go_wp2_with fail
  go_loopg [12] 7 (fun gk ix wr => ∃ k : Nat, k + gk = 7 ∧ ix = .int .i64 k ∧ Chg NoB w wr ∧ Blk wr w.heap.size zact 23 ∧ ∀ j < k, ¬ (nameF j = x ∧ ws.length = cntF j))
  case atStart => exact ⟨0, rfl, rfl, HC1.out, HB1.out, by omega⟩
  case round =>
    obtain ⟨k, hk, rfl, hC, hB, hno⟩ := hrel
    rename World => wr
    have HK := Lib.hid hk
    have HC := Lib.hid hC
    have HBB := Lib.hid hB
    have HNO := Lib.hid hno
    have hk7 : k ≤ 7 := by omega
    clear hk hC hB hno
    by_cases hlt : k < 7
    · have k1 : (k : Int) < 7 := by omega
      have k0 : (0 : Int) ≤ k := by omega
      have kc : (cntF k : Int) ≤ 2 ∧ (0 : Int) ≤ cntF k := by have := cnt_le hlt; omega
      have x0 := HC.out.cell (HS.out 0 _ rfl) id
      have hgr : g < wr.heap.size := Nat.lt_of_lt_of_le hg HC.out.size
      have HD := Lib.hid ((Chg.refl NoB wr).alloc (.cells #[.string ⟨(nameF k).toArray⟩, .int .i64 (cntF k)] 55))
      have HBS := Blk.new wr #[.string ⟨(nameF k).toArray⟩, .int .i64 (cntF k)] 55
      have y0 := HBS.cell' (i := 0) (v := .string ⟨(nameF k).toArray⟩) rfl
      have y1 := HBS.cell' (i := 1) (v := .int .i64 (cntF k)) rfl
      rw [Nat.add_zero] at x0
      unfold bsv at x0
      clear HBS
      cases q0 : (nameF k == x)
      · go_wp2_with fail
        rw [run_shape k hlt]
        simp only [Result.andThen]
        rw [Oper.upon_value]
        go_wp2_with fail
        go_quiet (fail)
        go_wp2_with fail
        go_roundg (7 - (k + 1))
        case measure => have := HK.out; omega
        case rel => exact ⟨k + 1, by have := HK.out; omega, by go_num, (HC.out.step HD.out).drewN _, (HBB.out.alloc _).drewN _, fun j hj => by
          rcases Nat.lt_or_ge j k with h | h
          · exact HNO.out j h
          · obtain rfl : j = k := by omega
            rw [name_eq, decide_eq_false_iff_not] at q0
            exact fun h => q0 h.1⟩
      · cases q1 : ((ws.length : Int) + 1 == 1 + (cntF k : Int))
        · go_wp2_with fail
          rw [run_shape k hlt]
          simp only [Result.andThen]
          rw [Oper.upon_value]
          go_wp2_with fail
          go_quiet (fail)
          go_wp2_with fail
          go_roundg (7 - (k + 1))
          case measure => have := HK.out; omega
          case rel => exact ⟨k + 1, by have := HK.out; omega, by go_num, (HC.out.step HD.out).drewN _, (HBB.out.alloc _).drewN _, fun j hj => by
            rcases Nat.lt_or_ge j k with h | h
            · exact HNO.out j h
            · obtain rfl : j = k := by omega
              rw [beq_eq_false_iff_ne] at q1
              exact fun h => q1 (by omega)⟩
        · have q2 : ((ws.length : Int) + 1 != 1 + (cntF k : Int)) = false := by simp only [bne, q1]; rfl
          have hm : nameF k = x ∧ ws.length = cntF k := by
            rw [name_eq, decide_eq_true_eq] at q0
            rw [beq_iff_eq] at q1
            exact ⟨q0, by omega⟩
          have HKF := Lib.hid (kindF_some hlt hm HNO.out)
          have hw2 : ws.length ≤ 2 := by have := cnt_le hlt; omega
          clear hm
          rcases Nat.lt_or_ge 1 c with hc1 | hc1
          · have hc2 : ¬ c = 1 := by omega
            go_wp2_with fail
            rw [run_shape k hlt]
            simp only [Result.andThen]
            rw [Oper.upon_value]
            go_wp2_with fail
            go_quiet (fail)
            go_wp2_with fail
            have HW := Lib.hid (((HC.out.step HD.out).drewN nq).alloc (.cells #[.int .i64 0, .int .i64 0] 76))
            have HZ := Lib.hid (((HBB.out.alloc (.cells #[.string ⟨(nameF k).toArray⟩, .int .i64 (cntF k)] 55)).drewN nq).alloc (.cells #[.int .i64 0, .int .i64 0] 76))
            have HT := Lib.hid (Blk.new ((wr.alloc (.cells #[.string ⟨(nameF k).toArray⟩, .int .i64 (cntF k)] 55)).drewN nq) #[.int .i64 0, .int .i64 0] 76)
            go_loopg [33, 7, 8, 9, 10] ws.length (fun gm jx _ _ _ _ wi => ∃ (i : Nat) (l : List Int), i + gm = ws.length ∧ jx = .int .i64 i ∧ l.length = i ∧ numsF (ws.take i) = some l ∧ Chg NoB w wi ∧ Blk wi w.heap.size zact 23 ∧ Blk wi (wr.heap.size + 1) #[.int .i64 (l.getD 0 0), .int .i64 (l.getD 1 0)] 76)
            case atStart => exact ⟨0, [], by omega, rfl, rfl, rfl, HW.out, HZ.out, by simpa [drewN_heap] using HT.out⟩
            case round =>
              obtain ⟨i, l, hi, rfl, hll, hn, hCi, hZi, hTi⟩ := hrel
              rename World => wi
              have HI := Lib.hid hi
              have HLL := Lib.hid hll
              have HN := Lib.hid hn
              have HCi := Lib.hid hCi
              have HZi := Lib.hid hZi
              have HTi := Lib.hid hTi
              have hil : i ≤ ws.length := by omega
              clear hi hll hn hCi hZi hTi
              by_cases hlt2 : i < ws.length
              · obtain ⟨y, hy⟩ : ∃ y, ws[i]? = some y := ⟨ws[i], by simp [hlt2]⟩
                have i0 : (0 : Int) ≤ i := by omega
                have i1 : (i : Int) < ws.length := by omega
                have i2 : (i : Int) < 2 := by omega
                have hx := HCi.out.cell (HS.out (i + 1) (bsv y) (by rw [List.getElem?_cons_succ, List.getElem?_map, hy]; rfl)) id
                unfold bsv at hx
                rw [show off + (i + 1) = off + 1 + i by omega] at hx
                have hyl := HLB.out y (List.mem_of_getElem? hy)
                have H1 := Lib.hid (number_any y wi hyl (HL.out.chg0 HCi.out))
                have HY := Lib.hid hy
                clear hy hyl
                cases hq : numF y with
                | none =>
                  have e : numV y = .tuple #[.int .i64 0, .bool false] := by unfold numV; rw [hq]; rfl
                  rw [e] at H1
                  have HB := Lib.hid (actW_bad (ws := x :: ws) (List.mem_of_getElem? HY.out) hq)
                  clear hq e
                  go_wp2_with fail
                  refine H1.out.mono ?_
                  rintro e w2 ⟨rfl, C2⟩
                  have HC2 := Lib.hid (HCi.out.step C2)
                  have HZ2 := Lib.hid (C2.blk0 HZi.out)
                  have z0 := HZ2.out.cell' (i := 0) (v := .int .i64 0) rfl
                  have z1 := HZ2.out.cell' (i := 1) (v := .int .i64 0) rfl
                  have z2 := HZ2.out.cell' (i := 2) (v := .int .i64 0) rfl
                  have zf := fun i => HZ2.out.frozen i
                  clear C2
                  go_wp2_with fail
                  refine bodyPost_ret (v := .tuple #[.agg zact, .bool false]) (by simp [results, Tryd.results18, go_sem, z0, z1, z2, zact]) rfl ⟨congrArg Ending.returned HB.out.symm, ((HC2.out.setCell (.inr (Nat.le_refl _)) _).setCell (.inr (Nat.le_refl _)) _).setCell (.inr (Nat.le_refl _)) _⟩
                | some n =>
                  have e : numV y = .tuple #[.int .i64 n, .bool true] := by unfold numV; rw [hq]; rfl
                  rw [e] at H1
                  have HNN := Lib.hid (nums_take HN.out HY.out hq)
                  clear hq e
                  go_wp2_with fail
                  refine H1.out.mono ?_
                  rintro e w2 ⟨rfl, C2⟩
                  have HC2 := Lib.hid (HCi.out.step C2)
                  have HZ2 := Lib.hid (C2.blk0 HZi.out)
                  have HT2 := Lib.hid (C2.blk0 HTi.out)
                  have hcx : ∃ u, w2.cell? ⟨wr.heap.size + 1, i, none⟩ = some (.int .i64 u) := by
                    match i, hlt2, hw2 with
                    | 0, _, _ => exact ⟨_, HT2.out.cell' (i := 0) rfl⟩
                    | 1, _, _ => exact ⟨_, HT2.out.cell' (i := 1) rfl⟩
                    | i + 2, h1, h2 => omega
                  obtain ⟨u, hu⟩ := hcx
                  have hf := HT2.out.frozen i
                  clear C2
                  go_wp2_with fail
                  go_roundg (ws.length - (i + 1))
                  case measure => have := HI.out; omega
                  case rel => exact ⟨i + 1, l ++ [n], by have := HI.out; omega, by go_num, by rw [List.length_append, HLL.out]; rfl, HNN.out, (HC2.out.setCell (.inr (by have := HC.out.size; show w.heap.size ≤ wr.heap.size + 1; omega)) _), HZ2.out.set_ne (by have := HC.out.size; show ¬ w.heap.size = wr.heap.size + 1; omega) _, by rw [← two_set l n (by rw [HLL.out]; omega), HLL.out]; exact HT2.out.set _ _⟩
              · obtain rfl : i = ws.length := by omega
                have HNN := HN.out
                rw [List.take_length] at HNN
                have HV := Lib.hid (actW_some HKF.out HNN)
                have z0 := HZi.out.cell' (i := 0) (v := .int .i64 0) rfl
                have z1 := HZi.out.cell' (i := 1) (v := .int .i64 0) rfl
                have z2 := HZi.out.cell' (i := 2) (v := .int .i64 0) rfl
                have zf := fun i => HZi.out.frozen i
                have t0 := HTi.out.cell' (i := 0) rfl
                have t1 := HTi.out.cell' (i := 1) rfl
                clear HNN
                go_wp2_with fail
                refine bodyPost_ret (v := .tuple #[.agg #[.int .i64 k, .int .i64 (l.getD 0 0), .int .i64 (l.getD 1 0)], .bool true]) (by simp [results, Tryd.results18, go_sem, z0, z1, z2, zf, Blk.lt]) rfl ⟨congrArg Ending.returned HV.out.symm, ?_⟩
                exact ((HCi.out.setCell (.inr (Nat.le_refl _)) _).setCell (.inr (Nat.le_refl _)) _).setCell (.inr (Nat.le_refl _)) _
          · obtain rfl : ws = [] := List.eq_nil_of_length_eq_zero (by omega)
            obtain rfl : c = 1 := by simp only [List.length_nil] at hc; omega
            have HV := Lib.hid (actW_some (l := []) HKF.out rfl)
            have q3 : ((1 : Int) != 1 + (cntF k : Int)) = false := by
              rw [beq_iff_eq] at q1
              simp only [List.length_nil] at q1
              simp only [bne_eq_false_iff_eq]; omega
            clear q1 q2
            have HZ := Lib.hid (((HBB.out.alloc (.cells #[.string ⟨(nameF k).toArray⟩, .int .i64 (cntF k)] 55))))
            go_wp2_with fail
            rw [run_shape k hlt]
            simp only [Result.andThen]
            rw [Oper.upon_value]
            go_wp2_with fail
            go_quiet (fail)
            go_wp2_with fail
            have HW := Lib.hid (((HC.out.step HD.out).drewN nq).alloc (.cells #[.int .i64 0, .int .i64 0] 76))
            have HZ2 := Lib.hid ((HZ.out.drewN nq).alloc (.cells #[.int .i64 0, .int .i64 0] 76))
            have HT2 := Lib.hid (Blk.new ((wr.alloc (.cells #[.string ⟨(nameF k).toArray⟩, .int .i64 (cntF k)] 55)).drewN nq) #[.int .i64 0, .int .i64 0] 76)
            go_loopg [33] 0 (fun gm jx wi => jx = .int .i64 0 ∧ Chg NoB w wi ∧ Blk wi w.heap.size zact 23 ∧ Blk wi (wr.heap.size + 1) #[.int .i64 0, .int .i64 0] 76)
            case atStart => exact ⟨rfl, HW.out, HZ2.out, by simpa [drewN_heap] using HT2.out⟩
            case round =>
              obtain ⟨rfl, hCi, hZi, hTi⟩ := hrel
              rename World => wi
              have HCi := Lib.hid hCi
              have HZi := Lib.hid hZi
              have HTi := Lib.hid hTi
              clear hCi hZi hTi
              have z0 := HZi.out.cell' (i := 0) (v := .int .i64 0) rfl
              have z1 := HZi.out.cell' (i := 1) (v := .int .i64 0) rfl
              have z2 := HZi.out.cell' (i := 2) (v := .int .i64 0) rfl
              have zf := fun i => HZi.out.frozen i
              have t0 := HTi.out.cell' (i := 0) rfl
              have t1 := HTi.out.cell' (i := 1) rfl
              go_wp2_with fail
              refine bodyPost_ret (v := .tuple #[.agg #[.int .i64 k, .int .i64 0, .int .i64 0], .bool true]) (by simp [results, Tryd.results18, go_sem, z0, z1, z2, zf]) rfl ⟨congrArg Ending.returned HV.out.symm, ?_⟩
              exact ((HCi.out.setCell (.inr (Nat.le_refl _)) _).setCell (.inr (Nat.le_refl _)) _).setCell (.inr (Nat.le_refl _)) _
    · obtain rfl : k = 7 := by omega
      have HN := Lib.hid (actW_none (kindF_none HNO.out))
      have z0 := HBB.out.cell' (i := 0) (v := .int .i64 0) rfl
      have z1 := HBB.out.cell' (i := 1) (v := .int .i64 0) rfl
      have z2 := HBB.out.cell' (i := 2) (v := .int .i64 0) rfl
      have zf := fun i => HBB.out.frozen i
      go_wp2_with fail
      refine bodyPost_ret (v := .tuple #[.agg zact, .bool false]) (by simp [results, Tryd.results18, go_sem, z0, z1, z2, zf, zact]) rfl ⟨congrArg Ending.returned HN.out.symm, ?_⟩
      exact ((HC.out.setCell (.inr (Nat.le_refl _)) _).setCell (.inr (Nat.le_refl _)) _).setCell (.inr (Nat.le_refl _)) _
end Go.Proofs.YtfidiiifcmmffaaDoor
