/- Where blocks begin, by the reference. No condition. -/
import Derived.Test.YtdkplhdinklflaaFlow15
import Derived.Test.YtdkplhdinklflaaFlow8
set_option linter.unusedVariables false
namespace Go.Proofs.Ytdkplhdinklflaa
open Go.RowKit Go.RR

/-- Does the instruction at a place make a block begin at p? -/
def makesB (l : List In) (p q : Nat) : Bool := match l[q]? with
  | some i => cutsB i && (decide (q + 1 = p) || (nxN l q).any fun n => decide (n = p))
  | none => false
theorem firstB_makes (l : List In) (p : Nat) : firstB l p = (decide (p = 0) || decide (p = l.length) || (List.range l.length).any (makesB l p)) := rfl
theorem makesB_at {l : List In} {p q : Nat} {i : In} (h : l[q]? = some i) : makesB l p q = (cutsB i && (decide (q + 1 = p) || (nxN l q).any fun n => decide (n = p))) := by unfold makesB; rw [h]
theorem any_take_snoc {f : Nat → Bool} {ns : List Nat} {k n : Nat} (h : ns[k]? = some n) : (ns.take (k + 1)).any f = ((ns.take k).any f || f n) := by
  rw [List.take_add_one, h, List.any_append]; simp

set_option maxHeartbeats 4000000 in
set_option maxRecDepth 100000 in
theorem rfirst_any (S : Nat → Prop) (v : Value) (l : List In) (p : Nat) (w : World) (hs : Sl w S 5 v l.length (icells l)) (hl : l.length ≤ 40) (hr : ∀ i ∈ l, rightB i = true) (hp : p ≤ 1000) :
    Calls Try.prog 81 #[v, .int .i64 p] w (RetW (.bool (firstB l p)) fun w' => Chg NoB w w') := by
  obtain ⟨pv, cv, rfl⟩ := hs.form
  have HS := Lib.hid hs
  have HR := Lib.hid hr
  clear hs hr
  by_cases h0 : p = 0
  · have q0 : ((p : Int) == 0) = true := by simp [h0]
    have q0' : (p == 0) = true := by simp [h0]
    have HE := Lib.hid (show firstB l p = true by rw [firstB_makes, decide_eq_true h0]; rfl)
    clear h0
    go_enter Try.func81, Try.ntmps81
    go_wp2_with fail
    go_ret
    exact ⟨ret_bool HE.out.symm, Chg.refl _ _⟩
  · have q0 : ((p : Int) == 0) = false := by rw [beq_eq_false_iff_ne]; omega
    have q0' : (p == 0) = false := by rw [beq_eq_false_iff_ne]; omega
    by_cases h1 : p = l.length
    · have q1 : ((p : Int) == l.length) = true := by simp [h1]
      have q1' : (p == l.length) = true := by simp [h1]
      have HE := Lib.hid (show firstB l p = true by rw [firstB_makes, decide_eq_true h1, Bool.or_true]; rfl)
      clear h0 h1
      go_enter Try.func81, Try.ntmps81
      go_wp2_with fail
      go_ret
      exact ⟨ret_bool HE.out.symm, Chg.refl _ _⟩
    · have q1 : ((p : Int) == l.length) = false := by rw [beq_eq_false_iff_ne]; omega
      have q1' : (p == l.length) = false := by rw [beq_eq_false_iff_ne]; omega
      have hf : firstB l p = (List.range l.length).any (makesB l p) := by rw [firstB_makes, decide_eq_false h0, decide_eq_false h1]; rfl
      have HF := Lib.hid hf
      clear h0 h1 hf
      go_enter Try.func81, Try.ntmps81
      go_wp2_with fail
      go_loopg [20] l.length (fun gk ix wr => ∃ j : Nat, j + gk = l.length ∧ ix = .int .i64 j ∧ (List.range j).any (makesB l p) = false ∧ Chg NoB w wr)
      case atStart => exact ⟨0, by omega, rfl, rfl, Chg.refl _ _⟩
      case round =>
        obtain ⟨j, hj, rfl, hA, hC⟩ := hrel
        rename World => wr
        have HJ := Lib.hid hj
        have HAN := Lib.hid hA
        have HC := Lib.hid hC
        have hjl : j ≤ l.length := by omega
        have hsn := any_range_snoc (makesB l p) j
        rw [hA, Bool.false_or] at hsn
        clear hj hA hC
        by_cases hlt : j < l.length
        · obtain ⟨i, hi⟩ : ∃ i, l[j]? = some i := ⟨l[j], by simp [hlt]⟩
          rw [makesB_at hi] at hsn
          have HSN := Lib.hid hsn
          have HMK := Lib.hid (makesB_at (p := p) hi)
          obtain ⟨pi, ci, hpi, hIn⟩ := InsAt.of (HS.out.chg0 HC.out) (by omega)
          cases hpi
          obtain ⟨gi, oi, rfl, hgi, c0, c1, c2, c3, c4⟩ := hIn.at hi
          have hIcap := hIn.cap
          have j0 : (0 : Int) ≤ j := by omega
          have j1 : (j : Int) < l.length := by omega
          have HA0 := Lib.hid ((Chg.refl NoB wr).alloc (.cells #[.int .i64 i.op, .int .i64 i.rd, .int .i64 i.rs, .int .i64 i.rt, .int .i64 i.im] 32))
          have HB0 := Lib.hid (Blk.new wr #[.int .i64 i.op, .int .i64 i.rd, .int .i64 i.rs, .int .i64 i.rt, .int .i64 i.im] 32)
          clear hi hIn hsn
          go_wp2_with fail
          refine (rkind_any i _).mono ?_
          rintro e w1 ⟨rfl, C1⟩
          have x0 := (C1.blk0 HB0.out).cell' (i := 0) (v := .int .i64 i.op) (by rfl)
          have xl := (C1.blk0 HB0.out).lt
          have HC1 := Lib.hid (HA0.out.step C1)
          obtain ⟨s, hs⟩ : ∃ s, (kd i.op).s = s := ⟨_, rfl⟩
          rw [hs]
          have HSS := Lib.hid hs
          clear C1 c0 c1 c2 c3 c4 hs
          go_upto_region 7 with fail
          go_cut [37] (fun v wx => v = .bool (!cutsB i) ∧ wx = w1)
          case first =>
            have qB := ks_B (kd i.op)
            have qJ := ks_J (kd i.op)
            have hcb : cutsB i = (decide (kd i.op = .B) || decide (kd i.op = .J) || decide (i.op = 0)) := rfl
            rw [HSS.out] at qB qJ
            by_cases hB : kd i.op = .B
            · rw [decide_eq_true hB] at qB
              have qB' : (s.toList != [66]) = false := by rw [bne, qB]; rfl
              have HCB := Lib.hid (show cutsB i = true by rw [hcb, decide_eq_true hB]; rfl)
              clear hB qJ hcb
              go_wp2_with fail
              go_meet
              exact ⟨by rw [HCB.out]; rfl, rfl⟩
            · rw [decide_eq_false hB] at qB
              have qB' : (s.toList != [66]) = true := by rw [bne, qB]; rfl
              by_cases hJ : kd i.op = .J
              · rw [decide_eq_true hJ] at qJ
                have qJ' : (s.toList != [74]) = false := by rw [bne, qJ]; rfl
                have HCB := Lib.hid (show cutsB i = true by rw [hcb, decide_eq_true hJ, Bool.or_true]; rfl)
                clear hB hJ hcb
                go_wp2_with fail
                go_meet
                exact ⟨by rw [HCB.out]; rfl, rfl⟩
              · rw [decide_eq_false hJ] at qJ
                have qJ' : (s.toList != [74]) = true := by rw [bne, qJ]; rfl
                by_cases hz : i.op = 0
                · have qz : (i.op != 0) = false := by simp [hz]
                  have HCB := Lib.hid (show cutsB i = true by rw [hcb, decide_eq_true hz, Bool.or_true])
                  clear hB hJ hcb hz
                  go_wp2_with fail
                  go_meet
                  exact ⟨by rw [HCB.out]; rfl, rfl⟩
                · have qz : (i.op != 0) = true := by simp [hz]
                  have HCB := Lib.hid (show cutsB i = false by rw [hcb, decide_eq_false hz, decide_eq_false hB, decide_eq_false hJ]; rfl)
                  clear hB hJ hcb hz
                  go_wp2_with fail
                  go_meet
                  exact ⟨by rw [HCB.out]; rfl, rfl⟩
          case rest =>
            obtain ⟨rfl, hw⟩ := hcut
            obtain rfl := hw.symm
            cases hcb : cutsB i
            · have HN := Lib.hid (show (List.range (j + 1)).any (makesB l p) = false by rw [HSN.out, hcb]; rfl)
              clear hcb
              go_wp2_with fail
              go_roundg (l.length - (j + 1))
              case measure => have := HJ.out; omega
              case rel => exact ⟨j + 1, by have := HJ.out; omega, by go_num, HN.out, HC.out.step HC1.out⟩
            · by_cases hjp : j + 1 = p
              · have q2 : ((j : Int) + 1 == p) = true := by rw [beq_iff_eq]; omega
                have q2' : (j + 1 == p) = true := by rw [beq_iff_eq]; omega
                have HE := Lib.hid (show (List.range l.length).any (makesB l p) = true from any_range_yes hlt (by rw [HMK.out, hcb, decide_eq_true hjp]; rfl))
                clear hcb hjp
                go_wp2_with fail
                go_ret
                exact ⟨ret_bool (by rw [HF.out, HE.out]), HC.out.step HC1.out⟩
              · have q2 : ((j : Int) + 1 == p) = false := by rw [beq_eq_false_iff_ne]; omega
                have q2' : (j + 1 == p) = false := by rw [beq_eq_false_iff_ne]; omega
                have hd := decide_eq_false hjp
                have HM := Lib.hid (show makesB l p j = (nxN l j).any fun n => decide (n = p) by rw [HMK.out, hcb, hd]; rfl)
                have HN := Lib.hid (show (List.range (j + 1)).any (makesB l p) = (nxN l j).any fun n => decide (n = p) by rw [HSN.out, hcb, hd]; rfl)
                clear hcb hjp hd
                go_wp2_with fail
                refine (rnext_any _ _ l j _ (HS.out.chg0 (HC.out.step HC1.out)) hl HR.out (by omega)).mono ?_
                rintro e w3 ⟨v3, rfl, hI, C3⟩
                rw [nextF_nx] at hI
                obtain ⟨p3, d3, rfl, hP3⟩ := hI.place
                obtain ⟨ns, hns⟩ : ∃ ns, nxN l j = ns := ⟨_, rfl⟩
                have hnb : ∀ n ∈ ns, n ≤ l.length := by rw [← hns]; exact nxN_le hlt
                have hn2 : ns.length ≤ 2 := by rw [← hns, nxN_len]; exact nextF_len _ _
                have HHI := Lib.hid hP3
                rw [hns] at HHI HM HN ⊢
                have HNB := Lib.hid hnb
                have HC3 := Lib.hid ((HC.out.step HC1.out).step C3)
                clear hI hP3 hnb hns C3
                go_wp2_with fail
                go_loopg [46] ns.length (fun gk ix wx => ∃ k : Nat, k + gk = ns.length ∧ ix = .int .i64 k ∧ ((ns.take k).any fun n => decide (n = p)) = false ∧ w3 = wx)
                case atStart => exact ⟨0, by omega, rfl, rfl, rfl⟩
                case round =>
                  obtain ⟨k, hk, rfl, hA, rfl⟩ := hrel
                  have HK := Lib.hid hk
                  have HA2 := Lib.hid hA
                  have hkl : k ≤ ns.length := by omega
                  clear hk hA
                  by_cases hltk : k < ns.length
                  · obtain ⟨n, hn⟩ : ∃ n, ns[k]? = some n := ⟨ns[k], by simp [hltk]⟩
                    obtain ⟨hcap, g1, o1, rfl, hgB, hg1, y0⟩ := HHI.out k n hn
                    have hnl := HNB.out n (List.mem_of_getElem? hn)
                    have hsn := any_take_snoc (f := fun n => decide (n = p)) hn
                    have hmem := List.mem_of_getElem? hn
                    rw [HA2.out, Bool.false_or] at hsn
                    have k0 : (0 : Int) ≤ k := by omega
                    have k1 : (k : Int) < ns.length := by omega
                    clear hn hgB
                    by_cases hnp : n = p
                    · have q3 : ((n : Int) == p) = true := by rw [beq_iff_eq]; omega
                      have q3' : (n == p) = true := by rw [beq_iff_eq]; omega
                      have HE := Lib.hid (show (List.range l.length).any (makesB l p) = true from any_range_yes hlt (by rw [HM.out]; exact List.any_eq_true.2 ⟨n, hmem, decide_eq_true hnp⟩))
                      clear hnp hsn hmem
                      go_wp2_with fail
                      go_ret
                      exact ⟨ret_bool (by rw [HF.out, HE.out]), HC3.out⟩
                    · have q3 : ((n : Int) == p) = false := by rw [beq_eq_false_iff_ne]; omega
                      have q3' : (n == p) = false := by rw [beq_eq_false_iff_ne]; omega
                      have HE := Lib.hid (show ((ns.take (k + 1)).any fun n => decide (n = p)) = false by rw [hsn]; exact decide_eq_false hnp)
                      clear hnp hsn hmem
                      go_wp2_with fail
                      go_roundg (ns.length - (k + 1))
                      case measure => have := HK.out; omega
                      case rel => exact ⟨k + 1, by have := HK.out; omega, by go_num, HE.out, rfl⟩
                  · obtain rfl : k = ns.length := by omega
                    have hA := HA2.out
                    rw [List.take_length] at hA
                    have HE := Lib.hid hA
                    clear hA
                    go_wp2_with fail
                    go_roundg (l.length - (j + 1))
                    case measure => have := HJ.out; omega
                    case rel => exact ⟨j + 1, by have := HJ.out; omega, by go_num, by rw [HN.out, HE.out], HC3.out⟩
        · obtain rfl : j = l.length := by omega
          go_wp2_with fail
          go_ret
          exact ⟨ret_bool (by rw [HF.out, HAN.out]), HC.out⟩
end Go.Proofs.Ytdkplhdinklflaa
