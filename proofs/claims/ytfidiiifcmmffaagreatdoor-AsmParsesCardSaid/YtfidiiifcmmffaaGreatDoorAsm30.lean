/- The reference's Line, walked. No condition. -/
import Derived.Test.YtfidiiifcmmffaaGreatDoorAsm29
set_option linter.unusedVariables false
set_option linter.unusedSimpArgs false
namespace Go.Proofs.YtfidiiifcmmffaaGreatDoor
open Go.RowKit Go.RR
theorem i64_zero : i64 0 := ⟨by decide, by decide⟩
theorem i64I_0 {o : Nat} (h : o < 35) : i64I ⟨o, 0, 0, 0, 0⟩ := ⟨i64_small (by show -2048 ≤ (o : Int) ∧ (o : Int) ≤ 2047; omega), i64_zero, i64_zero, i64_zero, i64_zero⟩
theorem step_r2 {c : UInt8} (h1 : c ≠ 105) (h2 : c ≠ 109) {k : Nat} {i : In} {r r1 r2 : Bs} {n : Int} {j : Nat} (h : (sepA k).isPrefixOf r = true) (hr : r.drop (sepA k).length = r1) (hr2 : r1.drop 1 = r2) (hn : numA r2 = (n, j)) (hp : ([114] : Bs).isPrefixOf r1 = true) :
    (decide (0 < j) = true → stepP c k i r = some (setReg c i n, r2.drop j)) ∧ (decide (0 < j) = false → stepP c k i r = none) := by
  have := (step_r (i := i) (n := n) (j := j) h1 h2 h hr (by rw [hr2, hn])).2 hp
  rw [hr2] at this
  exact ⟨fun e => this.1 (of_decide_eq_true e), fun e => this.2 (of_decide_eq_false e)⟩
theorem step_num2 {k : Nat} {i : In} {r r1 : Bs} {n : Int} {j : Nat} (h : (sepA k).isPrefixOf r = true) (hr : r.drop (sepA k).length = r1) (hn : numA r1 = (n, j)) :
    (decide (0 < j) = true → stepP 105 k i r = some ({ i with im := n }, r1.drop j)) ∧ (decide (0 < j) = false → stepP 105 k i r = none) := by
  have := step_num (i := i) h hr hn
  exact ⟨fun e => this.1 (of_decide_eq_true e), fun e => this.2 (of_decide_eq_false e)⟩
theorem step_mem {k : Nat} {i : In} {r r1 r2 r3 r4 r5 : Bs} {n m : Int} {j q : Nat} (h : (sepA k).isPrefixOf r = true) (hr : r.drop (sepA k).length = r1) (hn : numA r1 = (n, j)) (hr2 : r1.drop j = r2) (hr3 : r2.drop 1 = r3) (hr4 : r3.drop 1 = r4) (hm : numA r4 = (m, q)) (hr5 : r4.drop q = r5) :
    (([40] : Bs).isPrefixOf r2 = false → stepP 109 k i r = none) ∧ (([114] : Bs).isPrefixOf r3 = false → stepP 109 k i r = none) ∧ (([41] : Bs).isPrefixOf r5 = false → stepP 109 k i r = none) ∧ (¬ (0 < j ∧ 0 < q) → stepP 109 k i r = none) ∧
    (([40] : Bs).isPrefixOf r2 = true → ([114] : Bs).isPrefixOf r3 = true → ([41] : Bs).isPrefixOf r5 = true → 0 < j ∧ 0 < q → stepP 109 k i r = some ({ i with im := n, rs := m }, r5.drop 1)) := by
  have e4 : r2.drop 2 = r4 := by rw [← hr4, ← hr3, List.drop_drop]
  have hs := step_pl (i := i) (m := m) (q := q) h hr hn hr2 (by rw [e4, hm])
  rw [e4, hr5, pre2, hr3] at hs
  refine ⟨fun e => hs.1 (fun a => ?_), fun e => hs.1 (fun a => ?_), fun e => hs.1 (fun a => ?_), fun e => hs.1 (fun a => e ⟨a.1, a.2.2.1⟩), fun a b c d => hs.2 ?_⟩
  · rw [e] at a; exact absurd a.2.1 (by simp)
  · rw [e] at a; exact absurd a.2.1 (by simp)
  · rw [e] at a; exact absurd a.2.2.2 (by simp)
  · exact ⟨d.1, by rw [a, b]; rfl, d.2, c⟩
theorem shape_0 (k : Kd) : (shapeK k)[0]? ≠ some 109 := by cases k <;> decide
theorem setReg_i64 (c : UInt8) {i : In} {n : Int} (h : i64I i) (hn : i64 n) : i64I (setReg c i n) := by
  obtain ⟨a, b, d, e, f⟩ := h
  unfold setReg
  split
  · exact ⟨a, hn, d, e, f⟩
  · split
    · exact ⟨a, b, d, hn, f⟩
    · exact ⟨a, b, hn, e, f⟩
theorem setIm_i64 {i : In} {n : Int} (h : i64I i) (hn : i64 n) : i64I { i with im := n } := ⟨h.1, h.2.1, h.2.2.1, h.2.2.2.1, hn⟩
theorem setPl_i64 {i : In} {n m : Int} (h : i64I i) (hn : i64 n) (hm : i64 m) : i64I { i with im := n, rs := m } := ⟨h.1, h.2.1, hm, h.2.2.2.1, hn⟩
set_option maxHeartbeats 16000000 in
set_option maxRecDepth 100000 in
theorem rline_walk (s : Bs) (w : World) (hs : s.length ≤ 99999) : Calls Tryz.prog 15 #[.string ⟨s.toArray⟩] w (RetW (lineV s) fun w' => Chg NoB w w') := by
  have HC0 := Lib.hid ((Chg.refl NoB w).alloc (.cells (ic ⟨0, 0, 0, 0, 0⟩) 24))
  have HZ0 := Lib.hid (Blk.new w (ic ⟨0, 0, 0, 0, 0⟩) 24)
  go_enter Tryz.func15, Tryz.ntmps15
  go_wp2_with fail
  refine (rows_any _).mono ?_
  rintro e w1 ⟨v1, rfl, hS, C1⟩
  obtain ⟨-, p1, cap1, rfl, hcap1, hsp⟩ := hS
  obtain ⟨g0, of, rfl, -, hg0, hcell⟩ := hsp (by omega)
  have HC1 := Lib.hid (HC0.out.step C1)
  have HZ1 := Lib.hid (C1.blk0 HZ0.out)
  have HX := Lib.hid hcell
  have hn0 : w.heap.size < w1.heap.size := HZ1.out.lt
  have HG0 := Lib.hid hg0
  clear C1 hcell hsp hg0
  go_wp2_with fail
  go_loopg [18] 35 (fun g ix wr => ∃ o : Nat, o + g = 35 ∧ ix = .int .i64 o ∧ (∀ o' : Nat, o' < o → rowR o' s = none) ∧ Chg NoB w1 wr ∧ Blk wr w.heap.size (ic ⟨0, 0, 0, 0, 0⟩) 24)
  case atStart => exact ⟨0, rfl, rfl, fun o' h => absurd h (by omega), Chg.refl _ _, HZ1.out⟩
  case round =>
    obtain ⟨o, ho, rfl, hno, hC, hZ⟩ := hrel
    rename World => wr
    have HK := Lib.hid ho
    have HNO := Lib.hid hno
    have HC := Lib.hid hC
    have HZ := Lib.hid hZ
    have ho35 : o ≤ 35 := by omega
    clear ho hno hC hZ
    by_cases hlt : o < 35
    · obtain ⟨a0, a1, a2⟩ := rowC_at hlt
      have x0 := HC.out.cell (HX.out _ _ a0) id
      have x1 := HC.out.cell (HX.out _ _ a1) id
      have x2 := HC.out.cell (HX.out _ _ a2) id
      simp only [Nat.add_zero, ← Nat.add_assoc] at x0 x1 x2
      have o0 : (0 : Int) ≤ o := by omega
      have o1 : (o : Int) < 35 := by omega
      obtain ⟨hnp, hnne, _⟩ := names_plain o hlt
      obtain ⟨nm, hnm⟩ : ∃ nm, nameI (o : Int) = nm := ⟨_, rfl⟩
      rw [hnm] at x0 hnne
      have hnl : nm.length ≤ 8 := by rw [← hnm]; exact name_len _
      have hnp0 : 0 < nm.length := List.length_pos_iff.2 hnne
      have HNM := Lib.hid hnm
      have HE := Lib.hid fun w' => eat_any s nm w' (by omega) (by omega)
      have hkz : kd (o : Int) ≠ .z := (by decide : ∀ k < 35, kd (k : Nat) ≠ .z) o hlt
      clear a0 a1 a2 hnp hnm hnne
      cases hp : nm.isPrefixOf s
      · have HN : Hid (rowR o s = none) := Lib.hid (rowR_pre (by rw [HNM.out]; exact hp))
        have he := eatF_no hp
        rw [he] at HE
        clear hp he
        go_wp2_with fail
        refine (HE.out _).mono ?_
        rintro e w2 ⟨rfl, hw2⟩
        subst hw2
        go_wp2_with fail
        go_roundg (35 - (o + 1))
        case measure => have := HK.out; omega
        case rel => exact ⟨o + 1, by have := HK.out; omega, by go_num, fun o' ho' => by
          rcases Nat.lt_or_ge o' o with h | h
          · exact HNO.out o' h
          · obtain rfl : o' = o := by omega
            exact HN.out, ((HC.out.alloc _).alloc _), ((HZ.out.alloc _).alloc _)⟩
      · have he := eatF_yes hp
        rw [he] at HE
        have hpl := pre_len hp
        have HP := Lib.hid hp
        have n1 : ((nm.length : Int) == 0) = false := by rw [beq_eq_false_iff_ne]; omega
        have n2 : (nm.length == 0) = false := by rw [beq_eq_false_iff_ne]; omega
        have xd := ex_drop s nm.length
        obtain ⟨R0, hR0⟩ : ∃ R0, s.drop nm.length = R0 := ⟨_, rfl⟩
        rw [hR0] at xd
        have HR0 := Lib.hid hR0
        have hR0l : R0.length ≤ s.length := by rw [← hR0, List.length_drop]; omega
        have n3 : (nm.length : Int) ≤ s.length := by omega
        have n4 : (0 : Int) < nm.length := by omega
        have HSH := Lib.hid fun w' => shape_any (kd (o : Int)) w'
        obtain ⟨cs, hcs⟩ : ∃ cs, shapeK (kd (o : Int)) = cs := ⟨_, rfl⟩
        have hmem := shape_mem (kd (o : Int))
        have hcl := shape_len (kd (o : Int))
        rw [hcs] at HSH hmem hcl
        have HCS := Lib.hid hcs
        have HMEM := Lib.hid hmem
        have HRS : Hid (shapeP cs 0 ⟨o, 0, 0, 0, 0⟩ R0 = none → rowR o s = none) := Lib.hid fun h => rowR_shape (by rw [hcs, HNM.out, hR0]; exact h)
        have HRO : Hid (∀ i r, shapeP cs 0 ⟨o, 0, 0, 0, 0⟩ R0 = some (i, r) → rowR o s = if r = [] ∧ rightB i = true then some i else none) := Lib.hid fun i r h => rowR_some (by rw [HNM.out]; exact hp) (by rw [hcs, HNM.out, hR0]; exact h)
        clear hp he hR0 hcs hmem
        go_wp2_with fail
        refine (HE.out _).mono ?_
        rintro e w2 ⟨rfl, hw2⟩
        subst hw2
        go_wp2_with fail
        refine (HSH.out _).mono ?_
        rintro e w2 ⟨rfl, hw2⟩
        subst hw2
        have HC2 : Hid (Chg NoB w1 (((wr.alloc (.cells #[.string ⟨nm.toArray⟩, .string (kd (o : Int)).s, .int .i64 (rowAt o).2.2] 28)).alloc (.cells #[.int .i64 o, .int .i64 0, .int .i64 0, .int .i64 0, .int .i64 0] 24)).iter ⟨cs.toArray⟩ 0)) := Lib.hid (((HC.out.alloc _).alloc _).alloc _)
        have HZ2 : Hid (Blk (((wr.alloc (.cells #[.string ⟨nm.toArray⟩, .string (kd (o : Int)).s, .int .i64 (rowAt o).2.2] 28)).alloc (.cells #[.int .i64 o, .int .i64 0, .int .i64 0, .int .i64 0, .int .i64 0] 24)).iter ⟨cs.toArray⟩ 0) w.heap.size (ic ⟨0, 0, 0, 0, 0⟩) 24) := Lib.hid (((HZ.out.alloc _).alloc _).alloc _)
        have hz1 : ((wr.alloc (.cells #[.string ⟨nm.toArray⟩, .string (kd (o : Int)).s, .int .i64 (rowAt o).2.2] 28))).heap.size = wr.heap.size + 1 := by simp
        have hz2 : ((wr.alloc (.cells #[.string ⟨nm.toArray⟩, .string (kd (o : Int)).s, .int .i64 (rowAt o).2.2] 28)).alloc (.cells #[.int .i64 o, .int .i64 0, .int .i64 0, .int .i64 0, .int .i64 0] 24)).heap.size = wr.heap.size + 2 := by simp
        have HB2 : Hid (Blk (((wr.alloc (.cells #[.string ⟨nm.toArray⟩, .string (kd (o : Int)).s, .int .i64 (rowAt o).2.2] 28)).alloc (.cells #[.int .i64 o, .int .i64 0, .int .i64 0, .int .i64 0, .int .i64 0] 24)).iter ⟨cs.toArray⟩ 0) (wr.heap.size + 1) (ic ⟨o, 0, 0, 0, 0⟩) 24) := Lib.hid (by
          have := (Blk.new (wr.alloc (.cells #[.string ⟨nm.toArray⟩, .string (kd (o : Int)).s, .int .i64 (rowAt o).2.2] 28)) #[.int .i64 o, .int .i64 0, .int .i64 0, .int .i64 0, .int .i64 0] 24).alloc (.stringIter ⟨cs.toArray⟩ 0)
          rw [hz1] at this
          exact this)
        have HI2 : Hid (It (((wr.alloc (.cells #[.string ⟨nm.toArray⟩, .string (kd (o : Int)).s, .int .i64 (rowAt o).2.2] 28)).alloc (.cells #[.int .i64 o, .int .i64 0, .int .i64 0, .int .i64 0, .int .i64 0] 24)).iter ⟨cs.toArray⟩ 0) (wr.heap.size + 2) ⟨cs.toArray⟩ 0) := Lib.hid (by
          have := It.new ((wr.alloc (.cells #[.string ⟨nm.toArray⟩, .string (kd (o : Int)).s, .int .i64 (rowAt o).2.2] 28)).alloc (.cells #[.int .i64 o, .int .i64 0, .int .i64 0, .int .i64 0, .int .i64 0] 24)) ⟨cs.toArray⟩ 0
          rw [hz2] at this
          exact this)
        have hbn : w.heap.size ≠ wr.heap.size + 1 ∧ w.heap.size ≠ wr.heap.size + 2 := by have := HZ.out.lt; omega
        have hsz1 : w1.heap.size ≤ wr.heap.size := HC.out.size
        clear hz1 hz2 hpl
        go_upto_block 2 with fail
        go_cut [7, 8] (fun rv okv wx => ∃ (ok : Bool) (r : Bs) (i : In), rv = .string ⟨r.toArray⟩ ∧ okv = .bool ok ∧ r.length ≤ s.length ∧ i64I i ∧ (ok = true → shapeP cs 0 ⟨o, 0, 0, 0, 0⟩ R0 = some (i, r)) ∧ (ok = false → shapeP cs 0 ⟨o, 0, 0, 0, 0⟩ R0 = none) ∧ Chg NoB w1 wx ∧ Blk wx (wr.heap.size + 1) (ic i) 24 ∧ Blk wx w.heap.size (ic ⟨0, 0, 0, 0, 0⟩) 24)
        case first =>
          go_wp2_with fail
          go_loopg [7, 8] cs.length (fun g rv okv wx => ∃ (k : Nat) (ok : Bool) (r : Bs) (i : In), k + g = cs.length ∧ rv = .string ⟨r.toArray⟩ ∧ okv = .bool ok ∧ r.length ≤ s.length ∧ i64I i ∧ Sofar cs ⟨o, 0, 0, 0, 0⟩ R0 k ok i r ∧ Chg NoB w1 wx ∧ Blk wx (wr.heap.size + 1) (ic i) 24 ∧ It wx (wr.heap.size + 2) ⟨cs.toArray⟩ k ∧ Blk wx w.heap.size (ic ⟨0, 0, 0, 0, 0⟩) 24)
          case atStart => exact ⟨0, true, R0, ⟨o, 0, 0, 0, 0⟩, Nat.zero_add _, rfl, rfl, hR0l, i64I_0 hlt, ⟨fun _ => rfl, fun h => (by cases h)⟩, HC2.out, HB2.out, HI2.out, HZ2.out⟩
          case round =>
            obtain ⟨k, ok, r, i, hk, rfl, rfl, hrl, hii, hso, hCx, hBx, hIx, hZx⟩ := hrel
            rename World => wx
            have HKK := Lib.hid hk
            have HII := Lib.hid hii
            have HSO := Lib.hid hso
            have hkl : k ≤ cs.length := by omega
            by_cases hkc : k < cs.length
            · obtain ⟨c, hc⟩ : ∃ c, cs[k]? = some c := ⟨cs[k], by simp [hkc]⟩
              have hcm := HMEM.out c (List.mem_of_getElem? hc)
              obtain ⟨hsz, hv⟩ := byte_at hc
              have hca : c.toNat < 128 := by rcases hcm with rfl | rfl | rfl | rfl | rfl <;> decide
              have hnx : ∀ ty, (Instr.next (.pointer (some ⟨wr.heap.size + 2, 0, none⟩)) true ty).run Tryz.prog wx = .ok (.tuple #[.bool true, .int .i64 k, .int .i32 c.toNat]) (setIt wx (wr.heap.size + 2) ⟨cs.toArray⟩ (k + 1)) := fun ty => by
                have := it_next (P := Tryz.prog) ty hIx hsz (by rw [hv]; exact hca)
                rw [hv] at this
                exact this
              obtain ⟨wr3, hw3⟩ : ∃ wr3, setIt wx (wr.heap.size + 2) ⟨cs.toArray⟩ (k + 1) = wr3 := ⟨_, rfl⟩
              have HC3 : Hid (Chg NoB w1 wr3) := Lib.hid (by rw [← hw3]; exact hCx.setIt (.inr (by omega)) _ _)
              have HB3 : Hid (Blk wr3 (wr.heap.size + 1) (ic i) 24) := Lib.hid (by rw [← hw3]; exact hBx.setIt (by omega) _ _)
              have HI3 : Hid (It wr3 (wr.heap.size + 2) ⟨cs.toArray⟩ (k + 1)) := Lib.hid (by rw [← hw3]; exact hIx.set (k + 1))
              have HZ3 : Hid (Blk wr3 w.heap.size (ic ⟨0, 0, 0, 0, 0⟩) 24) := Lib.hid (by rw [← hw3]; exact hZx.setIt hbn.2 _ _)
              rw [hw3] at hnx
              have HCC := Lib.hid hc
              have k0 : (0 : Int) ≤ k := by omega
              clear hk hii hso hCx hBx hIx hZx hw3 hc hv hca
              cases ok
              · cases hk0 : ((k : Int) == 0)
                · go_wp2_with fail
                  go_meet
                  exact ⟨false, r, i, rfl, rfl, hrl, HII.out, fun h => (by cases h), fun _ => (HSO.out.2 rfl), HC3.out, HB3.out, HZ3.out⟩
                · go_wp2_with fail
                  go_meet
                  exact ⟨false, r, i, rfl, rfl, hrl, HII.out, fun h => (by cases h), fun _ => (HSO.out.2 rfl), HC3.out, HB3.out, HZ3.out⟩
              · cases hk0 : ((k : Int) == 0)
                · have HSE : Hid (sepA k = [44, 32]) := Lib.hid (by unfold sepA; rw [if_neg (by rw [beq_eq_false_iff_ne] at hk0; omega)])
                  have hea0 := eat_any r [44, 32] wr3 (by omega) (by simp)
                  cases hps : ([44, 32] : Bs).isPrefixOf r
                  · have HNN : Hid (stepP c k i r = none) := Lib.hid (step_sep (by rw [HSE.out]; exact hps))
                    rw [eatF_no hps] at hea0
                    have HEA := Lib.hid hea0
                    clear hea0 hps
                    go_wp2_with fail
                    refine (HEA.out).mono ?_
                    rintro e w4 ⟨rfl, hw4⟩
                    subst hw4
                    go_wp2_with fail
                    go_meet
                    exact ⟨false, r, i, rfl, rfl, hrl, HII.out, fun h => (by cases h), fun _ => (sofar_none HSO.out HCC.out HNN.out), HC3.out, HB3.out, HZ3.out⟩
                  · rw [eatF_yes hps] at hea0
                    have hpl0 := pre_len hps
                    simp only [List.length_cons, List.length_nil, Nat.zero_add, Nat.reduceAdd] at hpl0 hea0
                    have HEA := Lib.hid hea0
                    have HPS : Hid ((sepA k).isPrefixOf r = true) := Lib.hid (by rw [HSE.out]; exact hps)
                    have xe0 := ex_drop r 2
                    obtain ⟨r1, hr1⟩ : ∃ r1, r.drop 2 = r1 := ⟨_, rfl⟩
                    have hr1l : r1.length + 2 = r.length := by rw [← hr1, List.length_drop]; omega
                    rw [hr1] at xe0
                    have HR1 : Hid (r.drop (sepA k).length = r1) := Lib.hid (by rw [HSE.out]; exact hr1)
                    have e0 : (2 : Int) ≤ r.length := by omega
                    clear hea0 hps hr1
                    rcases hcm with rfl | rfl | rfl | rfl | rfl
                    · have hnot : (100 : UInt8) ≠ 105 ∧ (100 : UInt8) ≠ 109 := by decide
                      have hea := eat_any r1 [114] wr3 (by omega) (by simp)
                      cases hpr : ([114] : Bs).isPrefixOf r1
                      · have HNN : Hid (stepP 100 k i r = none) := Lib.hid ((step_r (n := (numA (r1.drop 1)).1) (j := (numA (r1.drop 1)).2) hnot.1 hnot.2 HPS.out HR1.out rfl).1 hpr)
                        rw [eatF_no hpr] at hea
                        have HEB := Lib.hid hea
                        clear hea hpr hnot
                        go_wp2_with fail
                        refine (HEA.out).mono ?_
                        rintro e w4 ⟨rfl, hw4⟩
                        subst hw4
                        go_wp2_with fail
                        refine (HEB.out).mono ?_
                        rintro e w4 ⟨rfl, hw4⟩
                        subst hw4
                        go_wp2_with fail
                        go_meet
                        exact ⟨false, r1, i, rfl, rfl, (by omega), HII.out, fun h => (by cases h), fun _ => (sofar_none HSO.out HCC.out HNN.out), HC3.out, HB3.out, HZ3.out⟩
                      · rw [eatF_yes hpr] at hea
                        have hpl1 := pre_len hpr
                        simp only [List.length_cons, List.length_nil, Nat.zero_add] at hpl1 hea
                        have HEB := Lib.hid hea
                        have xe1 := ex_drop r1 1
                        obtain ⟨r2, hr2⟩ : ∃ r2, r1.drop 1 = r2 := ⟨_, rfl⟩
                        have hr2l : r2.length + 1 = r1.length := by rw [← hr2, List.length_drop]; omega
                        rw [hr2] at xe1
                        have HR2 := Lib.hid hr2
                        obtain ⟨⟨n, j⟩, hnq⟩ : ∃ q, numA r2 = q := ⟨_, rfl⟩
                        have hnl := numA_le r2
                        have hnu := fun w' => rnumber_any r2 w' (by omega)
                        rw [hnq] at hnl
                        simp only [hnq] at hnu
                        obtain ⟨hnl1, hnl2⟩ := hnl
                        have HNIn := Lib.hid hnl2
                        have HNQn := Lib.hid hnq
                        simp only at hnl1
                        have HNUn := Lib.hid hnu
                        clear hnq hnu hnl2
                        have xe2 : (⟨r1.toArray⟩ : ByteArray).extract (1 + j) r1.length = ⟨(r2.drop j).toArray⟩ := by
                          rw [ex_drop r1 (1 + j), ← hr2, List.drop_drop]
                        have e1 : (1 : Int) ≤ r1.length := by omega
                        have e2 : (0 : Int) ≤ j := by omega
                        have e3 : (1 : Int) + j ≤ r1.length := by omega
                        have e4 : (0 : Int) ≤ 1 + (j : Int) := by omega
                        have e5 : ((1 : Int) + j).toNat = 1 + j := by omega
                        have HST : Hid ((decide (0 < j) = true → stepP 100 k i r = some (setReg 100 i n, r2.drop j)) ∧ (decide (0 < j) = false → stepP 100 k i r = none)) := Lib.hid (step_r2 hnot.1 hnot.2 HPS.out HR1.out HR2.out HNQn.out hpr)
                        have HDR : Hid ((r2.drop j).length ≤ s.length) := Lib.hid (by rw [List.length_drop]; omega)
                        clear hea hpr hnot hr2
                        go_wp2_with fail
                        refine (HEA.out).mono ?_
                        rintro e w4 ⟨rfl, hw4⟩
                        subst hw4
                        go_wp2_with fail
                        refine (HEB.out).mono ?_
                        rintro e w4 ⟨rfl, hw4⟩
                        subst hw4
                        go_wp2_with fail
                        refine (HNUn.out _).mono ?_
                        rintro e w5 ⟨rfl, C5⟩
                        have HC5 := Lib.hid (HC3.out.step C5)
                        have HB5 := Lib.hid (C5.blk0 HB3.out)
                        have HT5 := Lib.hid (HI3.out.chg C5 id)
                        have HZ5 := Lib.hid (C5.blk0 HZ3.out)
                        clear C5
                        have z1 := HB5.out.cell' (i := 1) (v := .int .i64 i.rd) rfl
                        have f1 := HB5.out.frozen 1
                        have hbl := HB5.out.lt
                        go_wp2_with fail
                        go_roundg (cs.length - (k + 1))
                        case measure => have := HKK.out; omega
                        case rel => exact ⟨k + 1, (decide (0 < j)), (r2.drop j), (setReg 100 i n), by have := HKK.out; omega, rfl, rfl, HDR.out, (setReg_i64 _ HII.out HNIn.out), (sofar_next HSO.out HCC.out HST.out.1 HST.out.2), (HC5.out.setCell (.inr (by have := hsz1; show w1.heap.size ≤ wr.heap.size + 1; omega)) _), (HB5.out.set 1 _), (HT5.out.setCell (by show wr.heap.size + 2 ≠ wr.heap.size + 1; omega) _), (HZ5.out.set_ne hbn.1 _)⟩
                    · have hnot : (115 : UInt8) ≠ 105 ∧ (115 : UInt8) ≠ 109 := by decide
                      have hea := eat_any r1 [114] wr3 (by omega) (by simp)
                      cases hpr : ([114] : Bs).isPrefixOf r1
                      · have HNN : Hid (stepP 115 k i r = none) := Lib.hid ((step_r (n := (numA (r1.drop 1)).1) (j := (numA (r1.drop 1)).2) hnot.1 hnot.2 HPS.out HR1.out rfl).1 hpr)
                        rw [eatF_no hpr] at hea
                        have HEB := Lib.hid hea
                        clear hea hpr hnot
                        go_wp2_with fail
                        refine (HEA.out).mono ?_
                        rintro e w4 ⟨rfl, hw4⟩
                        subst hw4
                        go_wp2_with fail
                        refine (HEB.out).mono ?_
                        rintro e w4 ⟨rfl, hw4⟩
                        subst hw4
                        go_wp2_with fail
                        go_meet
                        exact ⟨false, r1, i, rfl, rfl, (by omega), HII.out, fun h => (by cases h), fun _ => (sofar_none HSO.out HCC.out HNN.out), HC3.out, HB3.out, HZ3.out⟩
                      · rw [eatF_yes hpr] at hea
                        have hpl1 := pre_len hpr
                        simp only [List.length_cons, List.length_nil, Nat.zero_add] at hpl1 hea
                        have HEB := Lib.hid hea
                        have xe1 := ex_drop r1 1
                        obtain ⟨r2, hr2⟩ : ∃ r2, r1.drop 1 = r2 := ⟨_, rfl⟩
                        have hr2l : r2.length + 1 = r1.length := by rw [← hr2, List.length_drop]; omega
                        rw [hr2] at xe1
                        have HR2 := Lib.hid hr2
                        obtain ⟨⟨n, j⟩, hnq⟩ : ∃ q, numA r2 = q := ⟨_, rfl⟩
                        have hnl := numA_le r2
                        have hnu := fun w' => rnumber_any r2 w' (by omega)
                        rw [hnq] at hnl
                        simp only [hnq] at hnu
                        obtain ⟨hnl1, hnl2⟩ := hnl
                        have HNIn := Lib.hid hnl2
                        have HNQn := Lib.hid hnq
                        simp only at hnl1
                        have HNUn := Lib.hid hnu
                        clear hnq hnu hnl2
                        have xe2 : (⟨r1.toArray⟩ : ByteArray).extract (1 + j) r1.length = ⟨(r2.drop j).toArray⟩ := by
                          rw [ex_drop r1 (1 + j), ← hr2, List.drop_drop]
                        have e1 : (1 : Int) ≤ r1.length := by omega
                        have e2 : (0 : Int) ≤ j := by omega
                        have e3 : (1 : Int) + j ≤ r1.length := by omega
                        have e4 : (0 : Int) ≤ 1 + (j : Int) := by omega
                        have e5 : ((1 : Int) + j).toNat = 1 + j := by omega
                        have HST : Hid ((decide (0 < j) = true → stepP 115 k i r = some (setReg 115 i n, r2.drop j)) ∧ (decide (0 < j) = false → stepP 115 k i r = none)) := Lib.hid (step_r2 hnot.1 hnot.2 HPS.out HR1.out HR2.out HNQn.out hpr)
                        have HDR : Hid ((r2.drop j).length ≤ s.length) := Lib.hid (by rw [List.length_drop]; omega)
                        clear hea hpr hnot hr2
                        go_wp2_with fail
                        refine (HEA.out).mono ?_
                        rintro e w4 ⟨rfl, hw4⟩
                        subst hw4
                        go_wp2_with fail
                        refine (HEB.out).mono ?_
                        rintro e w4 ⟨rfl, hw4⟩
                        subst hw4
                        go_wp2_with fail
                        refine (HNUn.out _).mono ?_
                        rintro e w5 ⟨rfl, C5⟩
                        have HC5 := Lib.hid (HC3.out.step C5)
                        have HB5 := Lib.hid (C5.blk0 HB3.out)
                        have HT5 := Lib.hid (HI3.out.chg C5 id)
                        have HZ5 := Lib.hid (C5.blk0 HZ3.out)
                        clear C5
                        have z2 := HB5.out.cell' (i := 2) (v := .int .i64 i.rs) rfl
                        have f2 := HB5.out.frozen 2
                        have hbl := HB5.out.lt
                        go_wp2_with fail
                        go_roundg (cs.length - (k + 1))
                        case measure => have := HKK.out; omega
                        case rel => exact ⟨k + 1, (decide (0 < j)), (r2.drop j), (setReg 115 i n), by have := HKK.out; omega, rfl, rfl, HDR.out, (setReg_i64 _ HII.out HNIn.out), (sofar_next HSO.out HCC.out HST.out.1 HST.out.2), (HC5.out.setCell (.inr (by have := hsz1; show w1.heap.size ≤ wr.heap.size + 1; omega)) _), (HB5.out.set 2 _), (HT5.out.setCell (by show wr.heap.size + 2 ≠ wr.heap.size + 1; omega) _), (HZ5.out.set_ne hbn.1 _)⟩
                    · have hnot : (116 : UInt8) ≠ 105 ∧ (116 : UInt8) ≠ 109 := by decide
                      have hea := eat_any r1 [114] wr3 (by omega) (by simp)
                      cases hpr : ([114] : Bs).isPrefixOf r1
                      · have HNN : Hid (stepP 116 k i r = none) := Lib.hid ((step_r (n := (numA (r1.drop 1)).1) (j := (numA (r1.drop 1)).2) hnot.1 hnot.2 HPS.out HR1.out rfl).1 hpr)
                        rw [eatF_no hpr] at hea
                        have HEB := Lib.hid hea
                        clear hea hpr hnot
                        go_wp2_with fail
                        refine (HEA.out).mono ?_
                        rintro e w4 ⟨rfl, hw4⟩
                        subst hw4
                        go_wp2_with fail
                        refine (HEB.out).mono ?_
                        rintro e w4 ⟨rfl, hw4⟩
                        subst hw4
                        go_wp2_with fail
                        go_meet
                        exact ⟨false, r1, i, rfl, rfl, (by omega), HII.out, fun h => (by cases h), fun _ => (sofar_none HSO.out HCC.out HNN.out), HC3.out, HB3.out, HZ3.out⟩
                      · rw [eatF_yes hpr] at hea
                        have hpl1 := pre_len hpr
                        simp only [List.length_cons, List.length_nil, Nat.zero_add] at hpl1 hea
                        have HEB := Lib.hid hea
                        have xe1 := ex_drop r1 1
                        obtain ⟨r2, hr2⟩ : ∃ r2, r1.drop 1 = r2 := ⟨_, rfl⟩
                        have hr2l : r2.length + 1 = r1.length := by rw [← hr2, List.length_drop]; omega
                        rw [hr2] at xe1
                        have HR2 := Lib.hid hr2
                        obtain ⟨⟨n, j⟩, hnq⟩ : ∃ q, numA r2 = q := ⟨_, rfl⟩
                        have hnl := numA_le r2
                        have hnu := fun w' => rnumber_any r2 w' (by omega)
                        rw [hnq] at hnl
                        simp only [hnq] at hnu
                        obtain ⟨hnl1, hnl2⟩ := hnl
                        have HNIn := Lib.hid hnl2
                        have HNQn := Lib.hid hnq
                        simp only at hnl1
                        have HNUn := Lib.hid hnu
                        clear hnq hnu hnl2
                        have xe2 : (⟨r1.toArray⟩ : ByteArray).extract (1 + j) r1.length = ⟨(r2.drop j).toArray⟩ := by
                          rw [ex_drop r1 (1 + j), ← hr2, List.drop_drop]
                        have e1 : (1 : Int) ≤ r1.length := by omega
                        have e2 : (0 : Int) ≤ j := by omega
                        have e3 : (1 : Int) + j ≤ r1.length := by omega
                        have e4 : (0 : Int) ≤ 1 + (j : Int) := by omega
                        have e5 : ((1 : Int) + j).toNat = 1 + j := by omega
                        have HST : Hid ((decide (0 < j) = true → stepP 116 k i r = some (setReg 116 i n, r2.drop j)) ∧ (decide (0 < j) = false → stepP 116 k i r = none)) := Lib.hid (step_r2 hnot.1 hnot.2 HPS.out HR1.out HR2.out HNQn.out hpr)
                        have HDR : Hid ((r2.drop j).length ≤ s.length) := Lib.hid (by rw [List.length_drop]; omega)
                        clear hea hpr hnot hr2
                        go_wp2_with fail
                        refine (HEA.out).mono ?_
                        rintro e w4 ⟨rfl, hw4⟩
                        subst hw4
                        go_wp2_with fail
                        refine (HEB.out).mono ?_
                        rintro e w4 ⟨rfl, hw4⟩
                        subst hw4
                        go_wp2_with fail
                        refine (HNUn.out _).mono ?_
                        rintro e w5 ⟨rfl, C5⟩
                        have HC5 := Lib.hid (HC3.out.step C5)
                        have HB5 := Lib.hid (C5.blk0 HB3.out)
                        have HT5 := Lib.hid (HI3.out.chg C5 id)
                        have HZ5 := Lib.hid (C5.blk0 HZ3.out)
                        clear C5
                        have z3 := HB5.out.cell' (i := 3) (v := .int .i64 i.rt) rfl
                        have f3 := HB5.out.frozen 3
                        have hbl := HB5.out.lt
                        go_wp2_with fail
                        go_roundg (cs.length - (k + 1))
                        case measure => have := HKK.out; omega
                        case rel => exact ⟨k + 1, (decide (0 < j)), (r2.drop j), (setReg 116 i n), by have := HKK.out; omega, rfl, rfl, HDR.out, (setReg_i64 _ HII.out HNIn.out), (sofar_next HSO.out HCC.out HST.out.1 HST.out.2), (HC5.out.setCell (.inr (by have := hsz1; show w1.heap.size ≤ wr.heap.size + 1; omega)) _), (HB5.out.set 3 _), (HT5.out.setCell (by show wr.heap.size + 2 ≠ wr.heap.size + 1; omega) _), (HZ5.out.set_ne hbn.1 _)⟩
                    · skip
                      obtain ⟨⟨n, j⟩, hnq⟩ : ∃ q, numA r1 = q := ⟨_, rfl⟩
                      have hnl := numA_le r1
                      have hnu := fun w' => rnumber_any r1 w' (by omega)
                      rw [hnq] at hnl
                      simp only [hnq] at hnu
                      obtain ⟨hnl1, hnl2⟩ := hnl
                      have HNIn := Lib.hid hnl2
                      have HNQn := Lib.hid hnq
                      simp only at hnl1
                      have HNUn := Lib.hid hnu
                      clear hnq hnu hnl2
                      have xe2 := ex_drop r1 j
                      have e2 : (0 : Int) ≤ j := by omega
                      have e3 : (j : Int) ≤ r1.length := by omega
                      have HST : Hid ((decide (0 < j) = true → stepP 105 k i r = some ({ i with im := n }, r1.drop j)) ∧ (decide (0 < j) = false → stepP 105 k i r = none)) := Lib.hid (step_num2 HPS.out HR1.out HNQn.out)
                      have HDR : Hid ((r1.drop j).length ≤ s.length) := Lib.hid (by rw [List.length_drop]; omega)
                      go_wp2_with fail
                      refine (HEA.out).mono ?_
                      rintro e w4 ⟨rfl, hw4⟩
                      subst hw4
                      go_wp2_with fail
                      refine (HNUn.out _).mono ?_
                      rintro e w5 ⟨rfl, C5⟩
                      have HC5 := Lib.hid (HC3.out.step C5)
                      have HB5 := Lib.hid (C5.blk0 HB3.out)
                      have HT5 := Lib.hid (HI3.out.chg C5 id)
                      have HZ5 := Lib.hid (C5.blk0 HZ3.out)
                      clear C5
                      have z4 := HB5.out.cell' (i := 4) (v := .int .i64 i.im) rfl
                      have f4 := HB5.out.frozen 4
                      have hbl := HB5.out.lt
                      go_wp2_with fail
                      go_roundg (cs.length - (k + 1))
                      case measure => have := HKK.out; omega
                      case rel => exact ⟨k + 1, (decide (0 < j)), (r1.drop j), { i with im := n }, by have := HKK.out; omega, rfl, rfl, HDR.out, (setIm_i64 HII.out HNIn.out), (sofar_next HSO.out HCC.out HST.out.1 HST.out.2), (HC5.out.setCell (.inr (by have := hsz1; show w1.heap.size ≤ wr.heap.size + 1; omega)) _), (HB5.out.set 4 _), (HT5.out.setCell (by show wr.heap.size + 2 ≠ wr.heap.size + 1; omega) _), (HZ5.out.set_ne hbn.1 _)⟩
                    · skip
                      obtain ⟨⟨n, j⟩, hnq⟩ : ∃ q, numA r1 = q := ⟨_, rfl⟩
                      have hnl := numA_le r1
                      have hnu := fun w' => rnumber_any r1 w' (by omega)
                      rw [hnq] at hnl
                      simp only [hnq] at hnu
                      obtain ⟨hnl1, hnl2⟩ := hnl
                      have HNIn := Lib.hid hnl2
                      have HNQn := Lib.hid hnq
                      simp only at hnl1
                      have HNUn := Lib.hid hnu
                      clear hnq hnu hnl2
                      obtain ⟨r2, hr2⟩ : ∃ r2, r1.drop j = r2 := ⟨_, rfl⟩
                      obtain ⟨r3, hr3⟩ : ∃ r3, r2.drop 1 = r3 := ⟨_, rfl⟩
                      obtain ⟨r4, hr4⟩ : ∃ r4, r3.drop 1 = r4 := ⟨_, rfl⟩
                      have hl2 : r2.length ≤ r1.length := by rw [← hr2, List.length_drop]; omega
                      have hl3 : r3.length ≤ r2.length := by rw [← hr3, List.length_drop]; omega
                      have HL4 : Hid (r4.length = r3.length - 1) := Lib.hid (by rw [← hr4, List.length_drop])
                      have hl4 : r4.length ≤ r3.length := by have := HL4.out; omega
                      obtain ⟨⟨m, q⟩, hnq⟩ : ∃ q, numA r4 = q := ⟨_, rfl⟩
                      have hnl := numA_le r4
                      have hnu := fun w' => rnumber_any r4 w' (by omega)
                      rw [hnq] at hnl
                      simp only [hnq] at hnu
                      obtain ⟨hnl1, hnl2⟩ := hnl
                      have HNIm := Lib.hid hnl2
                      have HNQm := Lib.hid hnq
                      simp only at hnl1
                      have HNUm := Lib.hid hnu
                      clear hnq hnu hnl2
                      obtain ⟨r5, hr5⟩ : ∃ r5, r4.drop q = r5 := ⟨_, rfl⟩
                      have hl5 : r5.length ≤ r4.length := by rw [← hr5, List.length_drop]; omega
                      have HM := Lib.hid (step_mem (i := i) HPS.out HR1.out HNQn.out hr2 hr3 hr4 HNQm.out hr5)
                      have xa : (⟨r1.toArray⟩ : ByteArray).extract j r1.length = ⟨r2.toArray⟩ := by rw [← hr2]; exact ex_drop r1 j
                      have xb : (⟨r2.toArray⟩ : ByteArray).extract 1 r2.length = ⟨r3.toArray⟩ := by rw [← hr3]; exact ex_drop r2 1
                      have xc : (⟨r3.toArray⟩ : ByteArray).extract 1 r3.length = ⟨r4.toArray⟩ := by rw [← hr4]; exact ex_drop r3 1
                      have xd5 : (⟨r3.toArray⟩ : ByteArray).extract (1 + q) r3.length = ⟨r5.toArray⟩ := by rw [← hr5, ← hr4, List.drop_drop]; exact ex_drop r3 (1 + q)
                      have xe5 := ex_drop r5 1
                      obtain ⟨r6, hr6⟩ : ∃ r6, r5.drop 1 = r6 := ⟨_, rfl⟩
                      rw [hr6] at xe5 HM
                      have HD6 : Hid (r6.length ≤ s.length) := Lib.hid (by rw [← hr6, List.length_drop]; omega)
                      have HE1 := Lib.hid fun w' => eat_any r2 [40] w' (by omega) (by simp)
                      have HE2 := Lib.hid fun w' => eat_any r3 [114] w' (by omega) (by simp)
                      have HE3 := Lib.hid fun w' => eat_any r5 [41] w' (by omega) (by simp)
                      have m0 : (0 : Int) ≤ j := by omega
                      have m1 : (j : Int) ≤ r1.length := by omega
                      clear hr2 hr3 hr4 hr5 hr6
                      by_cases hj : 0 < j
                      · have HJ := Lib.hid hj
                        go_wp2_with fail
                        refine (HEA.out).mono ?_
                        rintro e w4 ⟨rfl, hw4⟩
                        subst hw4
                        go_wp2_with fail
                        refine (HNUn.out _).mono ?_
                        rintro e w5 ⟨rfl, C5⟩
                        have HC5 := Lib.hid (HC3.out.step C5)
                        have HB5 := Lib.hid (C5.blk0 HB3.out)
                        have HT5 := Lib.hid (HI3.out.chg C5 id)
                        have HZ5 := Lib.hid (C5.blk0 HZ3.out)
                        clear C5
                        have z4 := HB5.out.cell' (i := 4) (v := .int .i64 i.im) rfl
                        have f4 := HB5.out.frozen 4
                        have hbl := HB5.out.lt
                        go_wp2_with fail
                        cases h1 : ([40] : Bs).isPrefixOf r2
                        · rw [eatF_no h1] at HE1
                          have HNN := Lib.hid (HM.out.1 h1)
                          clear h1
                          refine (HE1.out _).mono ?_
                          rintro e w6 ⟨rfl, hw6⟩
                          subst hw6
                          go_wp2_with fail
                          go_meet
                          exact ⟨false, r2, { i with im := n }, rfl, rfl, (by omega), (setIm_i64 HII.out HNIn.out), fun h => (by cases h), fun _ => (sofar_none HSO.out HCC.out HNN.out), (HC5.out.setCell (.inr (by have := hsz1; show w1.heap.size ≤ wr.heap.size + 1; omega)) _), (HB5.out.set 4 _), (HZ5.out.set_ne hbn.1 _)⟩
                        · have g1 := pre_len h1
                          rw [eatF_yes h1] at HE1
                          simp only [List.length_cons, List.length_nil, Nat.zero_add] at g1 HE1
                          have H1 := Lib.hid h1
                          have m2 : (1 : Int) ≤ r2.length := by omega
                          clear h1
                          refine (HE1.out _).mono ?_
                          rintro e w6 ⟨rfl, hw6⟩
                          subst hw6
                          go_wp2_with fail
                          cases h2 : ([114] : Bs).isPrefixOf r3
                          · rw [eatF_no h2] at HE2
                            have HNN := Lib.hid (HM.out.2.1 h2)
                            clear h2
                            refine (HE2.out _).mono ?_
                            rintro e w6 ⟨rfl, hw6⟩
                            subst hw6
                            go_wp2_with fail
                            go_meet
                            exact ⟨false, r3, { i with im := n }, rfl, rfl, (by omega), (setIm_i64 HII.out HNIn.out), fun h => (by cases h), fun _ => (sofar_none HSO.out HCC.out HNN.out), (HC5.out.setCell (.inr (by have := hsz1; show w1.heap.size ≤ wr.heap.size + 1; omega)) _), (HB5.out.set 4 _), (HZ5.out.set_ne hbn.1 _)⟩
                          · have g2 := pre_len h2
                            rw [eatF_yes h2] at HE2
                            simp only [List.length_cons, List.length_nil, Nat.zero_add] at g2 HE2
                            have H2 := Lib.hid h2
                            have m3 : (1 : Int) ≤ r3.length := by omega
                            have m4 : (0 : Int) ≤ q := by omega
                            have m5 : (0 : Int) ≤ 1 + (q : Int) := by omega
                            have m6 : (1 : Int) + q ≤ r3.length := by have := HL4.out; omega
                            have m7 : ((1 : Int) + q).toNat = 1 + q := by omega
                            clear h2
                            refine (HE2.out _).mono ?_
                            rintro e w6 ⟨rfl, hw6⟩
                            subst hw6
                            go_wp2_with fail
                            refine (HNUm.out _).mono ?_
                            rintro e w7 ⟨rfl, C7⟩
                            have HC7 := Lib.hid ((HC5.out.setCell (.inr (by have := hsz1; show w1.heap.size ≤ wr.heap.size + 1; omega)) _).step C7)
                            have HB7 : Hid (Blk w7 (wr.heap.size + 1) (ic { i with im := n }) 24) := Lib.hid (C7.blk0 (HB5.out.set 4 _))
                            have HT7 := Lib.hid ((HT5.out.setCell (by show wr.heap.size + 2 ≠ wr.heap.size + 1; omega) _).chg C7 id)
                            have HZ7 := Lib.hid (C7.blk0 (HZ5.out.set_ne hbn.1 _))
                            clear C7
                            have z2 := HB7.out.cell' (i := 2) (v := .int .i64 i.rs) rfl
                            have f2 := HB7.out.frozen 2
                            have hbl := HB7.out.lt
                            go_wp2_with fail
                            cases h3 : ([41] : Bs).isPrefixOf r5
                            · rw [eatF_no h3] at HE3
                              have HNN := Lib.hid (HM.out.2.2.1 h3)
                              clear h3
                              refine (HE3.out _).mono ?_
                              rintro e w8 ⟨rfl, hw8⟩
                              subst hw8
                              go_wp2_with fail
                              go_meet
                              exact ⟨false, r5, { i with im := n, rs := m }, rfl, rfl, (by omega), (setPl_i64 HII.out HNIn.out HNIm.out), fun h => (by cases h), fun _ => (sofar_none HSO.out HCC.out HNN.out), (HC7.out.setCell (.inr (by have := hsz1; show w1.heap.size ≤ wr.heap.size + 1; omega)) _), (HB7.out.set 2 _), (HZ7.out.set_ne hbn.1 _)⟩
                            · have g3 := pre_len h3
                              rw [eatF_yes h3] at HE3
                              simp only [List.length_cons, List.length_nil, Nat.zero_add] at g3 HE3
                              have H3 := Lib.hid h3
                              have m8 : (1 : Int) ≤ r5.length := by omega
                              clear h3
                              refine (HE3.out _).mono ?_
                              rintro e w8 ⟨rfl, hw8⟩
                              subst hw8
                              go_wp2_with fail
                              go_roundg (cs.length - (k + 1))
                              case measure => have := HKK.out; omega
                              case rel => exact ⟨k + 1, (decide (0 < q)), r6, { i with im := n, rs := m }, by have := HKK.out; omega, rfl, rfl, HD6.out, (setPl_i64 HII.out HNIn.out HNIm.out), (sofar_next HSO.out HCC.out (fun e => HM.out.2.2.2.2 H1.out H2.out H3.out ⟨HJ.out, of_decide_eq_true e⟩) (fun e => HM.out.2.2.2.1 (fun a => of_decide_eq_false e a.2))), (HC7.out.setCell (.inr (by have := hsz1; show w1.heap.size ≤ wr.heap.size + 1; omega)) _), (HB7.out.set 2 _), (HT7.out.setCell (by show wr.heap.size + 2 ≠ wr.heap.size + 1; omega) _), (HZ7.out.set_ne hbn.1 _)⟩
                      · have HJ := Lib.hid hj
                        go_wp2_with fail
                        refine (HEA.out).mono ?_
                        rintro e w4 ⟨rfl, hw4⟩
                        subst hw4
                        go_wp2_with fail
                        refine (HNUn.out _).mono ?_
                        rintro e w5 ⟨rfl, C5⟩
                        have HC5 := Lib.hid (HC3.out.step C5)
                        have HB5 := Lib.hid (C5.blk0 HB3.out)
                        have HT5 := Lib.hid (HI3.out.chg C5 id)
                        have HZ5 := Lib.hid (C5.blk0 HZ3.out)
                        clear C5
                        have z4 := HB5.out.cell' (i := 4) (v := .int .i64 i.im) rfl
                        have f4 := HB5.out.frozen 4
                        have hbl := HB5.out.lt
                        go_wp2_with fail
                        cases h1 : ([40] : Bs).isPrefixOf r2
                        · rw [eatF_no h1] at HE1
                          have HNN := Lib.hid (HM.out.1 h1)
                          clear h1
                          refine (HE1.out _).mono ?_
                          rintro e w6 ⟨rfl, hw6⟩
                          subst hw6
                          go_wp2_with fail
                          go_meet
                          exact ⟨false, r2, { i with im := n }, rfl, rfl, (by omega), (setIm_i64 HII.out HNIn.out), fun h => (by cases h), fun _ => (sofar_none HSO.out HCC.out HNN.out), (HC5.out.setCell (.inr (by have := hsz1; show w1.heap.size ≤ wr.heap.size + 1; omega)) _), (HB5.out.set 4 _), (HZ5.out.set_ne hbn.1 _)⟩
                        · have g1 := pre_len h1
                          rw [eatF_yes h1] at HE1
                          simp only [List.length_cons, List.length_nil, Nat.zero_add] at g1 HE1
                          have H1 := Lib.hid h1
                          have m2 : (1 : Int) ≤ r2.length := by omega
                          clear h1
                          refine (HE1.out _).mono ?_
                          rintro e w6 ⟨rfl, hw6⟩
                          subst hw6
                          go_wp2_with fail
                          cases h2 : ([114] : Bs).isPrefixOf r3
                          · rw [eatF_no h2] at HE2
                            have HNN := Lib.hid (HM.out.2.1 h2)
                            clear h2
                            refine (HE2.out _).mono ?_
                            rintro e w6 ⟨rfl, hw6⟩
                            subst hw6
                            go_wp2_with fail
                            go_meet
                            exact ⟨false, r3, { i with im := n }, rfl, rfl, (by omega), (setIm_i64 HII.out HNIn.out), fun h => (by cases h), fun _ => (sofar_none HSO.out HCC.out HNN.out), (HC5.out.setCell (.inr (by have := hsz1; show w1.heap.size ≤ wr.heap.size + 1; omega)) _), (HB5.out.set 4 _), (HZ5.out.set_ne hbn.1 _)⟩
                          · have g2 := pre_len h2
                            rw [eatF_yes h2] at HE2
                            simp only [List.length_cons, List.length_nil, Nat.zero_add] at g2 HE2
                            have H2 := Lib.hid h2
                            have m3 : (1 : Int) ≤ r3.length := by omega
                            have m4 : (0 : Int) ≤ q := by omega
                            have m5 : (0 : Int) ≤ 1 + (q : Int) := by omega
                            have m6 : (1 : Int) + q ≤ r3.length := by have := HL4.out; omega
                            have m7 : ((1 : Int) + q).toNat = 1 + q := by omega
                            clear h2
                            refine (HE2.out _).mono ?_
                            rintro e w6 ⟨rfl, hw6⟩
                            subst hw6
                            go_wp2_with fail
                            refine (HNUm.out _).mono ?_
                            rintro e w7 ⟨rfl, C7⟩
                            have HC7 := Lib.hid ((HC5.out.setCell (.inr (by have := hsz1; show w1.heap.size ≤ wr.heap.size + 1; omega)) _).step C7)
                            have HB7 : Hid (Blk w7 (wr.heap.size + 1) (ic { i with im := n }) 24) := Lib.hid (C7.blk0 (HB5.out.set 4 _))
                            have HT7 := Lib.hid ((HT5.out.setCell (by show wr.heap.size + 2 ≠ wr.heap.size + 1; omega) _).chg C7 id)
                            have HZ7 := Lib.hid (C7.blk0 (HZ5.out.set_ne hbn.1 _))
                            clear C7
                            have z2 := HB7.out.cell' (i := 2) (v := .int .i64 i.rs) rfl
                            have f2 := HB7.out.frozen 2
                            have hbl := HB7.out.lt
                            go_wp2_with fail
                            cases h3 : ([41] : Bs).isPrefixOf r5
                            · rw [eatF_no h3] at HE3
                              have HNN := Lib.hid (HM.out.2.2.1 h3)
                              clear h3
                              refine (HE3.out _).mono ?_
                              rintro e w8 ⟨rfl, hw8⟩
                              subst hw8
                              go_wp2_with fail
                              go_meet
                              exact ⟨false, r5, { i with im := n, rs := m }, rfl, rfl, (by omega), (setPl_i64 HII.out HNIn.out HNIm.out), fun h => (by cases h), fun _ => (sofar_none HSO.out HCC.out HNN.out), (HC7.out.setCell (.inr (by have := hsz1; show w1.heap.size ≤ wr.heap.size + 1; omega)) _), (HB7.out.set 2 _), (HZ7.out.set_ne hbn.1 _)⟩
                            · have g3 := pre_len h3
                              rw [eatF_yes h3] at HE3
                              simp only [List.length_cons, List.length_nil, Nat.zero_add] at g3 HE3
                              have H3 := Lib.hid h3
                              have m8 : (1 : Int) ≤ r5.length := by omega
                              clear h3
                              refine (HE3.out _).mono ?_
                              rintro e w8 ⟨rfl, hw8⟩
                              subst hw8
                              go_wp2_with fail
                              go_roundg (cs.length - (k + 1))
                              case measure => have := HKK.out; omega
                              case rel => exact ⟨k + 1, false, r6, { i with im := n, rs := m }, by have := HKK.out; omega, rfl, rfl, HD6.out, (setPl_i64 HII.out HNIn.out HNIm.out), (sofar_next HSO.out HCC.out (fun e => (by cases e)) (fun e => HM.out.2.2.2.1 (fun a => HJ.out a.1))), (HC7.out.setCell (.inr (by have := hsz1; show w1.heap.size ≤ wr.heap.size + 1; omega)) _), (HB7.out.set 2 _), (HT7.out.setCell (by show wr.heap.size + 2 ≠ wr.heap.size + 1; omega) _), (HZ7.out.set_ne hbn.1 _)⟩
                · have HSE : Hid (sepA k = [32]) := Lib.hid (by unfold sepA; rw [if_pos (by rw [beq_iff_eq] at hk0; omega)])
                  have hea0 := eat_any r [32] wr3 (by omega) (by simp)
                  cases hps : ([32] : Bs).isPrefixOf r
                  · have HNN : Hid (stepP c k i r = none) := Lib.hid (step_sep (by rw [HSE.out]; exact hps))
                    rw [eatF_no hps] at hea0
                    have HEA := Lib.hid hea0
                    clear hea0 hps
                    go_wp2_with fail
                    refine (HEA.out).mono ?_
                    rintro e w4 ⟨rfl, hw4⟩
                    subst hw4
                    go_wp2_with fail
                    go_meet
                    exact ⟨false, r, i, rfl, rfl, hrl, HII.out, fun h => (by cases h), fun _ => (sofar_none HSO.out HCC.out HNN.out), HC3.out, HB3.out, HZ3.out⟩
                  · rw [eatF_yes hps] at hea0
                    have hpl0 := pre_len hps
                    simp only [List.length_cons, List.length_nil, Nat.zero_add, Nat.reduceAdd] at hpl0 hea0
                    have HEA := Lib.hid hea0
                    have HPS : Hid ((sepA k).isPrefixOf r = true) := Lib.hid (by rw [HSE.out]; exact hps)
                    have xe0 := ex_drop r 1
                    obtain ⟨r1, hr1⟩ : ∃ r1, r.drop 1 = r1 := ⟨_, rfl⟩
                    have hr1l : r1.length + 1 = r.length := by rw [← hr1, List.length_drop]; omega
                    rw [hr1] at xe0
                    have HR1 : Hid (r.drop (sepA k).length = r1) := Lib.hid (by rw [HSE.out]; exact hr1)
                    have e0 : (1 : Int) ≤ r.length := by omega
                    clear hea0 hps hr1
                    rcases hcm with rfl | rfl | rfl | rfl | rfl
                    · have hnot : (100 : UInt8) ≠ 105 ∧ (100 : UInt8) ≠ 109 := by decide
                      have hea := eat_any r1 [114] wr3 (by omega) (by simp)
                      cases hpr : ([114] : Bs).isPrefixOf r1
                      · have HNN : Hid (stepP 100 k i r = none) := Lib.hid ((step_r (n := (numA (r1.drop 1)).1) (j := (numA (r1.drop 1)).2) hnot.1 hnot.2 HPS.out HR1.out rfl).1 hpr)
                        rw [eatF_no hpr] at hea
                        have HEB := Lib.hid hea
                        clear hea hpr hnot
                        go_wp2_with fail
                        refine (HEA.out).mono ?_
                        rintro e w4 ⟨rfl, hw4⟩
                        subst hw4
                        go_wp2_with fail
                        refine (HEB.out).mono ?_
                        rintro e w4 ⟨rfl, hw4⟩
                        subst hw4
                        go_wp2_with fail
                        go_meet
                        exact ⟨false, r1, i, rfl, rfl, (by omega), HII.out, fun h => (by cases h), fun _ => (sofar_none HSO.out HCC.out HNN.out), HC3.out, HB3.out, HZ3.out⟩
                      · rw [eatF_yes hpr] at hea
                        have hpl1 := pre_len hpr
                        simp only [List.length_cons, List.length_nil, Nat.zero_add] at hpl1 hea
                        have HEB := Lib.hid hea
                        have xe1 := ex_drop r1 1
                        obtain ⟨r2, hr2⟩ : ∃ r2, r1.drop 1 = r2 := ⟨_, rfl⟩
                        have hr2l : r2.length + 1 = r1.length := by rw [← hr2, List.length_drop]; omega
                        rw [hr2] at xe1
                        have HR2 := Lib.hid hr2
                        obtain ⟨⟨n, j⟩, hnq⟩ : ∃ q, numA r2 = q := ⟨_, rfl⟩
                        have hnl := numA_le r2
                        have hnu := fun w' => rnumber_any r2 w' (by omega)
                        rw [hnq] at hnl
                        simp only [hnq] at hnu
                        obtain ⟨hnl1, hnl2⟩ := hnl
                        have HNIn := Lib.hid hnl2
                        have HNQn := Lib.hid hnq
                        simp only at hnl1
                        have HNUn := Lib.hid hnu
                        clear hnq hnu hnl2
                        have xe2 : (⟨r1.toArray⟩ : ByteArray).extract (1 + j) r1.length = ⟨(r2.drop j).toArray⟩ := by
                          rw [ex_drop r1 (1 + j), ← hr2, List.drop_drop]
                        have e1 : (1 : Int) ≤ r1.length := by omega
                        have e2 : (0 : Int) ≤ j := by omega
                        have e3 : (1 : Int) + j ≤ r1.length := by omega
                        have e4 : (0 : Int) ≤ 1 + (j : Int) := by omega
                        have e5 : ((1 : Int) + j).toNat = 1 + j := by omega
                        have HST : Hid ((decide (0 < j) = true → stepP 100 k i r = some (setReg 100 i n, r2.drop j)) ∧ (decide (0 < j) = false → stepP 100 k i r = none)) := Lib.hid (step_r2 hnot.1 hnot.2 HPS.out HR1.out HR2.out HNQn.out hpr)
                        have HDR : Hid ((r2.drop j).length ≤ s.length) := Lib.hid (by rw [List.length_drop]; omega)
                        clear hea hpr hnot hr2
                        go_wp2_with fail
                        refine (HEA.out).mono ?_
                        rintro e w4 ⟨rfl, hw4⟩
                        subst hw4
                        go_wp2_with fail
                        refine (HEB.out).mono ?_
                        rintro e w4 ⟨rfl, hw4⟩
                        subst hw4
                        go_wp2_with fail
                        refine (HNUn.out _).mono ?_
                        rintro e w5 ⟨rfl, C5⟩
                        have HC5 := Lib.hid (HC3.out.step C5)
                        have HB5 := Lib.hid (C5.blk0 HB3.out)
                        have HT5 := Lib.hid (HI3.out.chg C5 id)
                        have HZ5 := Lib.hid (C5.blk0 HZ3.out)
                        clear C5
                        have z1 := HB5.out.cell' (i := 1) (v := .int .i64 i.rd) rfl
                        have f1 := HB5.out.frozen 1
                        have hbl := HB5.out.lt
                        go_wp2_with fail
                        go_roundg (cs.length - (k + 1))
                        case measure => have := HKK.out; omega
                        case rel => exact ⟨k + 1, (decide (0 < j)), (r2.drop j), (setReg 100 i n), by have := HKK.out; omega, rfl, rfl, HDR.out, (setReg_i64 _ HII.out HNIn.out), (sofar_next HSO.out HCC.out HST.out.1 HST.out.2), (HC5.out.setCell (.inr (by have := hsz1; show w1.heap.size ≤ wr.heap.size + 1; omega)) _), (HB5.out.set 1 _), (HT5.out.setCell (by show wr.heap.size + 2 ≠ wr.heap.size + 1; omega) _), (HZ5.out.set_ne hbn.1 _)⟩
                    · have hnot : (115 : UInt8) ≠ 105 ∧ (115 : UInt8) ≠ 109 := by decide
                      have hea := eat_any r1 [114] wr3 (by omega) (by simp)
                      cases hpr : ([114] : Bs).isPrefixOf r1
                      · have HNN : Hid (stepP 115 k i r = none) := Lib.hid ((step_r (n := (numA (r1.drop 1)).1) (j := (numA (r1.drop 1)).2) hnot.1 hnot.2 HPS.out HR1.out rfl).1 hpr)
                        rw [eatF_no hpr] at hea
                        have HEB := Lib.hid hea
                        clear hea hpr hnot
                        go_wp2_with fail
                        refine (HEA.out).mono ?_
                        rintro e w4 ⟨rfl, hw4⟩
                        subst hw4
                        go_wp2_with fail
                        refine (HEB.out).mono ?_
                        rintro e w4 ⟨rfl, hw4⟩
                        subst hw4
                        go_wp2_with fail
                        go_meet
                        exact ⟨false, r1, i, rfl, rfl, (by omega), HII.out, fun h => (by cases h), fun _ => (sofar_none HSO.out HCC.out HNN.out), HC3.out, HB3.out, HZ3.out⟩
                      · rw [eatF_yes hpr] at hea
                        have hpl1 := pre_len hpr
                        simp only [List.length_cons, List.length_nil, Nat.zero_add] at hpl1 hea
                        have HEB := Lib.hid hea
                        have xe1 := ex_drop r1 1
                        obtain ⟨r2, hr2⟩ : ∃ r2, r1.drop 1 = r2 := ⟨_, rfl⟩
                        have hr2l : r2.length + 1 = r1.length := by rw [← hr2, List.length_drop]; omega
                        rw [hr2] at xe1
                        have HR2 := Lib.hid hr2
                        obtain ⟨⟨n, j⟩, hnq⟩ : ∃ q, numA r2 = q := ⟨_, rfl⟩
                        have hnl := numA_le r2
                        have hnu := fun w' => rnumber_any r2 w' (by omega)
                        rw [hnq] at hnl
                        simp only [hnq] at hnu
                        obtain ⟨hnl1, hnl2⟩ := hnl
                        have HNIn := Lib.hid hnl2
                        have HNQn := Lib.hid hnq
                        simp only at hnl1
                        have HNUn := Lib.hid hnu
                        clear hnq hnu hnl2
                        have xe2 : (⟨r1.toArray⟩ : ByteArray).extract (1 + j) r1.length = ⟨(r2.drop j).toArray⟩ := by
                          rw [ex_drop r1 (1 + j), ← hr2, List.drop_drop]
                        have e1 : (1 : Int) ≤ r1.length := by omega
                        have e2 : (0 : Int) ≤ j := by omega
                        have e3 : (1 : Int) + j ≤ r1.length := by omega
                        have e4 : (0 : Int) ≤ 1 + (j : Int) := by omega
                        have e5 : ((1 : Int) + j).toNat = 1 + j := by omega
                        have HST : Hid ((decide (0 < j) = true → stepP 115 k i r = some (setReg 115 i n, r2.drop j)) ∧ (decide (0 < j) = false → stepP 115 k i r = none)) := Lib.hid (step_r2 hnot.1 hnot.2 HPS.out HR1.out HR2.out HNQn.out hpr)
                        have HDR : Hid ((r2.drop j).length ≤ s.length) := Lib.hid (by rw [List.length_drop]; omega)
                        clear hea hpr hnot hr2
                        go_wp2_with fail
                        refine (HEA.out).mono ?_
                        rintro e w4 ⟨rfl, hw4⟩
                        subst hw4
                        go_wp2_with fail
                        refine (HEB.out).mono ?_
                        rintro e w4 ⟨rfl, hw4⟩
                        subst hw4
                        go_wp2_with fail
                        refine (HNUn.out _).mono ?_
                        rintro e w5 ⟨rfl, C5⟩
                        have HC5 := Lib.hid (HC3.out.step C5)
                        have HB5 := Lib.hid (C5.blk0 HB3.out)
                        have HT5 := Lib.hid (HI3.out.chg C5 id)
                        have HZ5 := Lib.hid (C5.blk0 HZ3.out)
                        clear C5
                        have z2 := HB5.out.cell' (i := 2) (v := .int .i64 i.rs) rfl
                        have f2 := HB5.out.frozen 2
                        have hbl := HB5.out.lt
                        go_wp2_with fail
                        go_roundg (cs.length - (k + 1))
                        case measure => have := HKK.out; omega
                        case rel => exact ⟨k + 1, (decide (0 < j)), (r2.drop j), (setReg 115 i n), by have := HKK.out; omega, rfl, rfl, HDR.out, (setReg_i64 _ HII.out HNIn.out), (sofar_next HSO.out HCC.out HST.out.1 HST.out.2), (HC5.out.setCell (.inr (by have := hsz1; show w1.heap.size ≤ wr.heap.size + 1; omega)) _), (HB5.out.set 2 _), (HT5.out.setCell (by show wr.heap.size + 2 ≠ wr.heap.size + 1; omega) _), (HZ5.out.set_ne hbn.1 _)⟩
                    · have hnot : (116 : UInt8) ≠ 105 ∧ (116 : UInt8) ≠ 109 := by decide
                      have hea := eat_any r1 [114] wr3 (by omega) (by simp)
                      cases hpr : ([114] : Bs).isPrefixOf r1
                      · have HNN : Hid (stepP 116 k i r = none) := Lib.hid ((step_r (n := (numA (r1.drop 1)).1) (j := (numA (r1.drop 1)).2) hnot.1 hnot.2 HPS.out HR1.out rfl).1 hpr)
                        rw [eatF_no hpr] at hea
                        have HEB := Lib.hid hea
                        clear hea hpr hnot
                        go_wp2_with fail
                        refine (HEA.out).mono ?_
                        rintro e w4 ⟨rfl, hw4⟩
                        subst hw4
                        go_wp2_with fail
                        refine (HEB.out).mono ?_
                        rintro e w4 ⟨rfl, hw4⟩
                        subst hw4
                        go_wp2_with fail
                        go_meet
                        exact ⟨false, r1, i, rfl, rfl, (by omega), HII.out, fun h => (by cases h), fun _ => (sofar_none HSO.out HCC.out HNN.out), HC3.out, HB3.out, HZ3.out⟩
                      · rw [eatF_yes hpr] at hea
                        have hpl1 := pre_len hpr
                        simp only [List.length_cons, List.length_nil, Nat.zero_add] at hpl1 hea
                        have HEB := Lib.hid hea
                        have xe1 := ex_drop r1 1
                        obtain ⟨r2, hr2⟩ : ∃ r2, r1.drop 1 = r2 := ⟨_, rfl⟩
                        have hr2l : r2.length + 1 = r1.length := by rw [← hr2, List.length_drop]; omega
                        rw [hr2] at xe1
                        have HR2 := Lib.hid hr2
                        obtain ⟨⟨n, j⟩, hnq⟩ : ∃ q, numA r2 = q := ⟨_, rfl⟩
                        have hnl := numA_le r2
                        have hnu := fun w' => rnumber_any r2 w' (by omega)
                        rw [hnq] at hnl
                        simp only [hnq] at hnu
                        obtain ⟨hnl1, hnl2⟩ := hnl
                        have HNIn := Lib.hid hnl2
                        have HNQn := Lib.hid hnq
                        simp only at hnl1
                        have HNUn := Lib.hid hnu
                        clear hnq hnu hnl2
                        have xe2 : (⟨r1.toArray⟩ : ByteArray).extract (1 + j) r1.length = ⟨(r2.drop j).toArray⟩ := by
                          rw [ex_drop r1 (1 + j), ← hr2, List.drop_drop]
                        have e1 : (1 : Int) ≤ r1.length := by omega
                        have e2 : (0 : Int) ≤ j := by omega
                        have e3 : (1 : Int) + j ≤ r1.length := by omega
                        have e4 : (0 : Int) ≤ 1 + (j : Int) := by omega
                        have e5 : ((1 : Int) + j).toNat = 1 + j := by omega
                        have HST : Hid ((decide (0 < j) = true → stepP 116 k i r = some (setReg 116 i n, r2.drop j)) ∧ (decide (0 < j) = false → stepP 116 k i r = none)) := Lib.hid (step_r2 hnot.1 hnot.2 HPS.out HR1.out HR2.out HNQn.out hpr)
                        have HDR : Hid ((r2.drop j).length ≤ s.length) := Lib.hid (by rw [List.length_drop]; omega)
                        clear hea hpr hnot hr2
                        go_wp2_with fail
                        refine (HEA.out).mono ?_
                        rintro e w4 ⟨rfl, hw4⟩
                        subst hw4
                        go_wp2_with fail
                        refine (HEB.out).mono ?_
                        rintro e w4 ⟨rfl, hw4⟩
                        subst hw4
                        go_wp2_with fail
                        refine (HNUn.out _).mono ?_
                        rintro e w5 ⟨rfl, C5⟩
                        have HC5 := Lib.hid (HC3.out.step C5)
                        have HB5 := Lib.hid (C5.blk0 HB3.out)
                        have HT5 := Lib.hid (HI3.out.chg C5 id)
                        have HZ5 := Lib.hid (C5.blk0 HZ3.out)
                        clear C5
                        have z3 := HB5.out.cell' (i := 3) (v := .int .i64 i.rt) rfl
                        have f3 := HB5.out.frozen 3
                        have hbl := HB5.out.lt
                        go_wp2_with fail
                        go_roundg (cs.length - (k + 1))
                        case measure => have := HKK.out; omega
                        case rel => exact ⟨k + 1, (decide (0 < j)), (r2.drop j), (setReg 116 i n), by have := HKK.out; omega, rfl, rfl, HDR.out, (setReg_i64 _ HII.out HNIn.out), (sofar_next HSO.out HCC.out HST.out.1 HST.out.2), (HC5.out.setCell (.inr (by have := hsz1; show w1.heap.size ≤ wr.heap.size + 1; omega)) _), (HB5.out.set 3 _), (HT5.out.setCell (by show wr.heap.size + 2 ≠ wr.heap.size + 1; omega) _), (HZ5.out.set_ne hbn.1 _)⟩
                    · skip
                      obtain ⟨⟨n, j⟩, hnq⟩ : ∃ q, numA r1 = q := ⟨_, rfl⟩
                      have hnl := numA_le r1
                      have hnu := fun w' => rnumber_any r1 w' (by omega)
                      rw [hnq] at hnl
                      simp only [hnq] at hnu
                      obtain ⟨hnl1, hnl2⟩ := hnl
                      have HNIn := Lib.hid hnl2
                      have HNQn := Lib.hid hnq
                      simp only at hnl1
                      have HNUn := Lib.hid hnu
                      clear hnq hnu hnl2
                      have xe2 := ex_drop r1 j
                      have e2 : (0 : Int) ≤ j := by omega
                      have e3 : (j : Int) ≤ r1.length := by omega
                      have HST : Hid ((decide (0 < j) = true → stepP 105 k i r = some ({ i with im := n }, r1.drop j)) ∧ (decide (0 < j) = false → stepP 105 k i r = none)) := Lib.hid (step_num2 HPS.out HR1.out HNQn.out)
                      have HDR : Hid ((r1.drop j).length ≤ s.length) := Lib.hid (by rw [List.length_drop]; omega)
                      go_wp2_with fail
                      refine (HEA.out).mono ?_
                      rintro e w4 ⟨rfl, hw4⟩
                      subst hw4
                      go_wp2_with fail
                      refine (HNUn.out _).mono ?_
                      rintro e w5 ⟨rfl, C5⟩
                      have HC5 := Lib.hid (HC3.out.step C5)
                      have HB5 := Lib.hid (C5.blk0 HB3.out)
                      have HT5 := Lib.hid (HI3.out.chg C5 id)
                      have HZ5 := Lib.hid (C5.blk0 HZ3.out)
                      clear C5
                      have z4 := HB5.out.cell' (i := 4) (v := .int .i64 i.im) rfl
                      have f4 := HB5.out.frozen 4
                      have hbl := HB5.out.lt
                      go_wp2_with fail
                      go_roundg (cs.length - (k + 1))
                      case measure => have := HKK.out; omega
                      case rel => exact ⟨k + 1, (decide (0 < j)), (r1.drop j), { i with im := n }, by have := HKK.out; omega, rfl, rfl, HDR.out, (setIm_i64 HII.out HNIn.out), (sofar_next HSO.out HCC.out HST.out.1 HST.out.2), (HC5.out.setCell (.inr (by have := hsz1; show w1.heap.size ≤ wr.heap.size + 1; omega)) _), (HB5.out.set 4 _), (HT5.out.setCell (by show wr.heap.size + 2 ≠ wr.heap.size + 1; omega) _), (HZ5.out.set_ne hbn.1 _)⟩
                    · exact absurd (by have := HCC.out; rw [show k = 0 by rw [beq_iff_eq] at hk0; omega, ← HCS.out] at this; exact this) (shape_0 _)
            · obtain rfl : k = cs.length := by omega
              have hls := it_last (P := Tryz.prog) 0 hIx (by show ¬ cs.length < cs.toArray.size; simp)
              have HCz := Lib.hid hCx
              have HBz := Lib.hid hBx
              have HZz := Lib.hid hZx
              clear hk hii hso hCx hBx hIx hZx
              go_wp2_with fail
              go_meet
              exact ⟨ok, r, i, rfl, rfl, hrl, HII.out, fun h => by rw [HSO.out.1 h, List.drop_length]; rfl, HSO.out.2, HCz.out, HBz.out, HZz.out⟩
        case rest =>
          obtain ⟨ok, r, i, rfl, rfl, hrl, hii, hy, hn, hCx, hBx, hZx⟩ := hcut
          have HCx := Lib.hid hCx
          have HBx := Lib.hid hBx
          have HZx := Lib.hid hZx
          cases ok
          · have HN : Hid (rowR o s = none) := Lib.hid (HRS.out (hn rfl))
            clear hii hy hn hCx hBx hZx
            go_wp2_with fail
            go_roundg (35 - (o + 1))
            case measure => have := HK.out; omega
            case rel => exact ⟨o + 1, by have := HK.out; omega, by go_num, fun o' ho' => by
              rcases Nat.lt_or_ge o' o with h | h
              · exact HNO.out o' h
              · obtain rfl : o' = o := by omega
                exact HN.out, HCx.out, HZx.out⟩
          · have HRV := Lib.hid (HRO.out i r (hy rfl))
            have HRI := Lib.hid fun w' => rright_any i w'
            clear hii hy hn hCx hBx hZx
            have y0 := HBx.out.cell' (i := 0) (v := .int .i64 i.op) rfl
            have y1 := HBx.out.cell' (i := 1) (v := .int .i64 i.rd) rfl
            have y2 := HBx.out.cell' (i := 2) (v := .int .i64 i.rs) rfl
            have y3 := HBx.out.cell' (i := 3) (v := .int .i64 i.rt) rfl
            have y4 := HBx.out.cell' (i := 4) (v := .int .i64 i.im) rfl
            have yf0 := HBx.out.frozen 0
            have yf1 := HBx.out.frozen 1
            have yf2 := HBx.out.frozen 2
            have yf3 := HBx.out.frozen 3
            have yf4 := HBx.out.frozen 4
            have yl := HBx.out.lt
            by_cases hre : r = []
            · have HRE := Lib.hid hre
              cases hb : rightB i
              · have HN : Hid (rowR o s = none) := Lib.hid (by rw [HRV.out, if_neg (fun a => by rw [hb] at a; exact absurd a.2 (by simp))])
                rw [hb] at HRI
                clear hb
                go_wp2_with fail
                refine (HRI.out _).mono ?_
                rintro e w3 ⟨rfl, C3⟩
                have HCz := Lib.hid (HCx.out.step C3)
                have HZz := Lib.hid (C3.blk0 HZx.out)
                clear C3
                go_wp2_with fail
                go_roundg (35 - (o + 1))
                case measure => have := HK.out; omega
                case rel => exact ⟨o + 1, by have := HK.out; omega, by go_num, fun o' ho' => by
                  rcases Nat.lt_or_ge o' o with h | h
                  · exact HNO.out o' h
                  · obtain rfl : o' = o := by omega
                    exact HN.out, HCz.out, HZz.out⟩
              · have HQ : Hid (lineV s = .tuple #[.agg #[.int .i64 i.op, .int .i64 i.rd, .int .i64 i.rs, .int .i64 i.rt, .int .i64 i.im], .bool true]) := Lib.hid (lineV_some (find_some hlt HNO.out (by rw [HRV.out, if_pos ⟨HRE.out, hb⟩])))
                rw [hb] at HRI
                clear hb
                go_wp2_with fail
                refine (HRI.out _).mono ?_
                rintro e w3 ⟨rfl, C3⟩
                have HCz := Lib.hid (HC1.out.step (HCx.out.step C3))
                have HZz := Lib.hid (C3.blk0 HZx.out)
                have HBz := Lib.hid (C3.blk0 HBx.out)
                clear C3 y0 y1 y2 y3 y4 yl yf0 yf1 yf2 yf3 yf4
                have y0 := HBz.out.cell' (i := 0) (v := .int .i64 i.op) rfl
                have y1 := HBz.out.cell' (i := 1) (v := .int .i64 i.rd) rfl
                have y2 := HBz.out.cell' (i := 2) (v := .int .i64 i.rs) rfl
                have y3 := HBz.out.cell' (i := 3) (v := .int .i64 i.rt) rfl
                have y4 := HBz.out.cell' (i := 4) (v := .int .i64 i.im) rfl
                have yf0 := HBz.out.frozen 0
                have yf1 := HBz.out.frozen 1
                have yf2 := HBz.out.frozen 2
                have yf3 := HBz.out.frozen 3
                have yf4 := HBz.out.frozen 4
                have yl := HBz.out.lt
                have x0 := HZz.out.cell' (i := 0) (v := .int .i64 0) rfl
                have x1 := HZz.out.cell' (i := 1) (v := .int .i64 0) rfl
                have x2 := HZz.out.cell' (i := 2) (v := .int .i64 0) rfl
                have x3 := HZz.out.cell' (i := 3) (v := .int .i64 0) rfl
                have x4 := HZz.out.cell' (i := 4) (v := .int .i64 0) rfl
                have f0 := HZz.out.frozen 0
                have f1 := HZz.out.frozen 1
                have f2 := HZz.out.frozen 2
                have f3 := HZz.out.frozen 3
                have f4 := HZz.out.frozen 4
                have hbr := HZz.out.lt
                go_wp2_with fail
                exact bodyPost_ret (v := .tuple #[.agg #[.int .i64 i.op, .int .i64 i.rd, .int .i64 i.rs, .int .i64 i.rt, .int .i64 i.im], .bool true]) (by simp [results, Tryz.results15, go_sem, x0, x1, x2, x3, x4, hbr]) rfl
                  ⟨by rw [HQ.out], ((((HCz.out.setCell (.inr (Nat.le_refl _)) _).setCell (.inr (Nat.le_refl _)) _).setCell (.inr (Nat.le_refl _)) _).setCell (.inr (Nat.le_refl _)) _).setCell (.inr (Nat.le_refl _)) _⟩
            · have HN : Hid (rowR o s = none) := Lib.hid (by rw [HRV.out, if_neg (fun a => hre a.1)])
              go_wp2_with fail
              go_roundg (35 - (o + 1))
              case measure => have := HK.out; omega
              case rel => exact ⟨o + 1, by have := HK.out; omega, by go_num, fun o' ho' => by
                rcases Nat.lt_or_ge o' o with h | h
                · exact HNO.out o' h
                · obtain rfl : o' = o := by omega
                  exact HN.out, HCx.out, HZx.out⟩
    · obtain rfl : 35 = o := by omega
      have HQ : Hid (lineV s = .tuple #[.agg #[.int .i64 0, .int .i64 0, .int .i64 0, .int .i64 0, .int .i64 0], .bool false]) := Lib.hid (lineV_none (find_none HNO.out))
      have x0 := HZ.out.cell' (i := 0) (v := .int .i64 0) rfl
      have x1 := HZ.out.cell' (i := 1) (v := .int .i64 0) rfl
      have x2 := HZ.out.cell' (i := 2) (v := .int .i64 0) rfl
      have x3 := HZ.out.cell' (i := 3) (v := .int .i64 0) rfl
      have x4 := HZ.out.cell' (i := 4) (v := .int .i64 0) rfl
      have f0 := HZ.out.frozen 0
      have f1 := HZ.out.frozen 1
      have f2 := HZ.out.frozen 2
      have f3 := HZ.out.frozen 3
      have f4 := HZ.out.frozen 4
      have hbr := HZ.out.lt
      have HCW := Lib.hid (HC1.out.step HC.out)
      go_wp2_with fail
      exact bodyPost_ret (v := .tuple #[.agg #[.int .i64 0, .int .i64 0, .int .i64 0, .int .i64 0, .int .i64 0], .bool false]) (by simp [results, Tryz.results15, go_sem, x0, x1, x2, x3, x4, hbr]) rfl
        ⟨by rw [HQ.out], ((((HCW.out.setCell (.inr (Nat.le_refl _)) _).setCell (.inr (Nat.le_refl _)) _).setCell (.inr (Nat.le_refl _)) _).setCell (.inr (Nat.le_refl _)) _).setCell (.inr (Nat.le_refl _)) _⟩
end Go.Proofs.YtfidiiifcmmffaaGreatDoor
