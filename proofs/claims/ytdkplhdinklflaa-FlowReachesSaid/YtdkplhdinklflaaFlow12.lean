/- Which registers a program may read unwritten, by the reference. No condition. -/
import Derived.Test.YtdkplhdinklflaaFlow11
set_option linter.unusedVariables false
set_option linter.unusedSimpArgs false
set_option linter.unusedSectionVars false
namespace Go.Proofs.Ytdkplhdinklflaa
open Go.RowKit Go.RR

theorem nxi_le {l : List In} {r p : Nat} (hp : p < l.length) : ∀ n ∈ nxi (nxN l) (wrN l) r p, n ≤ l.length := fun n hn => by
  unfold nxi at hn
  split at hn
  · simp at hn
  · exact nxN_le hp n hn
theorem and_bit {a m n : Nat} (hn : m + 1 = n) (h2 : n ≤ 15) : a &&& bitR ((m : Int) + 1) = if a.testBit n = true then 2 ^ n else 0 := by
  rw [bitR_yes (by omega) (by omega), show ((m : Int) + 1).toNat = n by omega]
  refine Nat.eq_of_testBit_eq fun k => ?_
  rw [Nat.testBit_and, Nat.testBit_two_pow]
  by_cases hk : n = k
  · subst hk
    cases h : a.testBit n
    · simp
    · simp [Nat.testBit_two_pow]
  · split
    · rw [Nat.testBit_two_pow]; simp [hk]
    · simp [hk]
theorem bit_pow {m n : Nat} (hn : m + 1 = n) (h2 : n ≤ 15) : bitR ((m : Int) + 1) = 2 ^ n := by
  rw [bitR_yes (by omega) (by omega), show ((m : Int) + 1).toNat = n by omega]
theorem pow_lt16 {n : Nat} (h : n ≤ 15) : 2 ^ n < 65536 := Nat.lt_of_le_of_lt (Nat.pow_le_pow_right (by omega) h) (by decide)
theorem rawStep_lt {rd : Nat → Nat} {i : Nat} {s : List Bool} {o p : Nat} (hi : i ≤ 15) (ho : o < 65536) : rawStep rd i s o p < 65536 := by
  unfold rawStep
  split
  · exact Nat.or_lt_two_pow (n := 16) ho (pow_lt16 hi)
  · exact ho

set_option maxHeartbeats 8000000 in
set_option maxRecDepth 100000 in
theorem rraw_any (S0 : Nat → Prop) (v : Value) (l : List In) (w : World) (hs : Sl w S0 5 v l.length (icells l)) (hl : l.length ≤ 40) (hr : ∀ i ∈ l, rightB i = true) :
    Calls Try.prog 52 #[v] w (RetW (.int .u16 (rawF (nxN l) l.length (wrN l) (rdN l) : Nat)) fun w' => Chg NoB w w') := by
  obtain ⟨i0, hi0, hz0, hz1, hz2⟩ := info_parts BoolInfo
  have hmk : ∀ W, (Instr.makeSlice 53 (.int .i64 ((l.length : Int) + 1)) (.int .i64 ((l.length : Int) + 1))).run Try.prog W = .ok (.slice (some ⟨W.heap.size, 0, none⟩) (l.length + 1) (l.length + 1)) (W.alloc (.cells (bools (List.replicate (l.length + 1) false)) 4)) := by
    intro W
    have h := run_make (P := Try.prog) W 53 4 i0 _ Try.underlying53 hi0 hz0 .i64 .i64 ((l.length : Int) + 1) ((l.length : Int) + 1) (by omega) (by omega) (by rw [hz2]; omega) (by omega)
    rw [hz1, show ((l.length : Int) + 1).toNat = l.length + 1 by omega, made_bools] at h
    exact h
  have HMK := Lib.hid hmk
  obtain ⟨pv, cv, rfl⟩ := hs.form
  have hs' := hs.monoIn (S' := fun k => k < w.heap.size) fun k h _ => h
  have HS := Lib.hid hs'
  have HR := Lib.hid hr
  clear hs hs' hr hmk
  go_enter Try.func52, Try.ntmps52
  go_wp2_with fail
  go_loopg [3, 4] 15 (fun gk ov nv wr => ∃ m o : Nat, m + gk = 15 ∧ nv = .int .i64 ((m : Int) + 1) ∧ ov = .int .u16 o ∧ o < 65536 ∧ ((List.range m).map (· + 1)).foldl (rawReg (nxN l) l.length (wrN l) (rdN l)) 0 = o ∧ Chg NoB w wr)
  case atStart => exact ⟨0, 0, by omega, rfl, rfl, by omega, rfl, Chg.refl _ _⟩
  case round =>
    obtain ⟨m, o, hm, rfl, rfl, ho, hfo, hC⟩ := hrel
    rename World => wq
    have HM := Lib.hid hm
    have HFO := Lib.hid hfo
    have HC := Lib.hid hC
    have hm15 : m ≤ 15 := by omega
    have hnxo : ((List.range (m + 1)).map (· + 1)).foldl (rawReg (nxN l) l.length (wrN l) (rdN l)) 0 = rawReg (nxN l) l.length (wrN l) (rdN l) o (m + 1) := by rw [List.range_succ, List.map_append, List.foldl_append, hfo]; rfl
    have HNXO := Lib.hid hnxo
    clear hm hfo hC hnxo
    by_cases hlt : m < 15
    · have t0 : decide ((m : Int) + 1 < 16) = true := by simp; omega
      have t0' : decide ((m : Int) < 15) = true := by simp; omega
      obtain ⟨n, hn⟩ : ∃ n : Nat, m + 1 = n := ⟨_, rfl⟩
      have hn1 : (m : Int) + 1 = n := by omega
      have hn15 : n ≤ 15 := by omega
      have hn0 : 1 ≤ n := by omega
      have HN := Lib.hid hn
      have HN1 := Lib.hid hn1
      have hmk := HMK.out
      have B1 := Blk.new wq (bools (List.replicate (l.length + 1) false)) 4
      have hbl1 := B1.lt
      have hfz1 := B1.frozen 0
      have C1 := (Chg.refl NoB wq).alloc (.cells (bools (List.replicate (l.length + 1) false)) 4)
      have z0 := B1.cell' (i := 0) (bools_at (by simp))
      have hst : (bools (List.replicate (l.length + 1) false)).setIfInBounds 0 (.bool true) = bools (markL (List.replicate (l.length + 1) false) [0]) := bools_set _ _ _
      have BS := Blk.new wq ((bools (List.replicate (l.length + 1) false)).setIfInBounds 0 (.bool true)) 4
      have BS : Blk (wq.alloc (.cells ((bools (List.replicate (l.length + 1) false)).setIfInBounds 0 (.bool true)) 4)) wq.heap.size (bools (markL (List.replicate (l.length + 1) false) [0])) 4 := Eq.mp (congrArg (fun c => Blk (wq.alloc (.cells ((bools (List.replicate (l.length + 1) false)).setIfInBounds 0 (.bool true)) 4)) wq.heap.size c 4) hst) BS
      obtain ⟨s1, hs1⟩ : ∃ s1, markL (List.replicate (l.length + 1) false) [0] = s1 := ⟨_, rfl⟩
      have hl1 : s1.length = l.length + 1 := by rw [← hs1, markL_len]; simp
      rw [hs1] at BS
      have HS1 := Lib.hid hs1
      have HL1 := Lib.hid hl1
      have HB := Lib.hid BS
      have HC0 := Lib.hid ((Chg.refl NoB wq).alloc (.cells ((bools (List.replicate (l.length + 1) false)).setIfInBounds 0 (.bool true)) 4))
      have hzq := HC.out.size
      have HQ := Lib.hid (HC.out.step HC0.out)
      clear hlt hn hn1 B1 C1 BS hst hs1 hl1
      go_wp2_with fail
      clear hmk z0 hfz1
      go_loopg [24] l.length (fun gk ix wr => ∃ k : Nat, k + gk = l.length ∧ ix = .int .i64 k ∧ Blk wr wq.heap.size (bools (roundsF (nxi (nxN l) (wrN l) n) l.length k s1)) 4 ∧ Chg NoB wq wr)
      case atStart => exact ⟨0, by omega, rfl, HB.out, HC0.out⟩
      case round =>
        obtain ⟨k, hk, rfl, hB, hC⟩ := hrel
        have HK := Lib.hid hk
        have hkl : k ≤ l.length := by omega
        obtain ⟨sk, hsk⟩ : ∃ sk, roundsF (nxi (nxN l) (wrN l) n) l.length k s1 = sk := ⟨_, rfl⟩
        have hlk : sk.length = l.length + 1 := by rw [← hsk, roundsF_len]; exact HL1.out
        rw [hsk] at hB
        have HSK := Lib.hid hsk
        have HLK := Lib.hid hlk
        have HBk := Lib.hid hB
        have HCk := Lib.hid hC
        clear hk hB hC hsk hlk
        by_cases hlt : k < l.length
        · go_wp2_with fail
          go_loopg [28] l.length (fun gk ix wr => ∃ j : Nat, j + gk = l.length ∧ ix = .int .i64 j ∧ Blk wr wq.heap.size (bools ((List.range j).foldl (oneF (nxi (nxN l) (wrN l) n)) sk)) 4 ∧ Chg NoB wq wr)
          case atStart => exact ⟨0, by omega, rfl, HBk.out, HCk.out⟩
          case round =>
            obtain ⟨j, hj, rfl, hB, hC⟩ := hrel
            rename World => wr
            have HJ := Lib.hid hj
            have hjl : j ≤ l.length := by omega
            obtain ⟨sj, hsj⟩ : ∃ sj, (List.range j).foldl (oneF (nxi (nxN l) (wrN l) n)) sk = sj := ⟨_, rfl⟩
            have hlj : sj.length = l.length + 1 := by rw [← hsj, oneF_foldlen]; exact HLK.out
            rw [hsj] at hB
            have hnx : (List.range (j + 1)).foldl (oneF (nxi (nxN l) (wrN l) n)) sk = oneF (nxi (nxN l) (wrN l) n) sj j := by rw [List.range_succ, List.foldl_append, hsj]; rfl
            have HSJ := Lib.hid hsj
            have HLJ := Lib.hid hlj
            have HBj := Lib.hid hB
            have HCj := Lib.hid hC
            have HNX := Lib.hid hnx
            clear hj hB hC hsj hlj hnx
            by_cases hltj : j < l.length
            · have y0 := HBj.out.cell' (i := j) (bools_at (by have := HLJ.out; omega))
              have hbl := HBj.out.lt
              have j0 : (0 : Int) ≤ j := by omega
              have j1 : (j : Int) < l.length := by omega
              have j2 : (j : Int) < l.length + 1 := by omega
              obtain ⟨i, hi⟩ : ∃ i, l[j]? = some i := ⟨l[j], by simp [hltj]⟩
              have hwr := wrN_at hi
              have HWR := Lib.hid hwr
              have hSr := HS.out.chg0 (HC.out.step HCj.out)
              obtain ⟨pi, ci, hpi, hIn⟩ := InsAt.of hSr (by omega)
              cases hpi
              obtain ⟨gi, oi, rfl, hgi, c0, c1, c2, c3, c4⟩ := hIn.at hi
              have hIcap := hIn.cap
              have A0 := (Chg.refl NoB wr).alloc (.cells #[.int .i64 i.op, .int .i64 i.rd, .int .i64 i.rs, .int .i64 i.rt, .int .i64 i.im] 32)
              have HA0 := Lib.hid A0
              have HBA := Lib.hid (HBj.out.alloc (.cells #[.int .i64 i.op, .int .i64 i.rd, .int .i64 i.rs, .int .i64 i.rt, .int .i64 i.im] 32))
              clear hi hwr hSr hIn A0
              cases hmj : mk sj j
              · rw [hmj] at y0
                have e : oneF (nxi (nxN l) (wrN l) n) sj j = sj := by unfold oneF; rw [if_neg (by rw [hmj]; simp)]
                have HE := Lib.hid e
                clear hmj e
                go_wp2_with fail
                go_roundg (l.length - (j + 1))
                case measure => have := HJ.out; omega
                case rel => exact ⟨j + 1, by have := HJ.out; omega, by go_num, by rw [HNX.out, HE.out]; exact HBA.out, HCj.out.step HA0.out⟩
              · rw [hmj] at y0
                have kand := bits_and16 (writesF_lt i) (bitR_lt ((m : Int) + 1))
                rw [and_bit HN.out hn15] at kand
                by_cases htb : (writesF i).testBit n = true
                · have e : oneF (nxi (nxN l) (wrN l) n) sj j = sj := by
                    unfold oneF nxi
                    rw [if_pos hmj, HWR.out, if_pos htb]
                    rfl
                  have HE := Lib.hid e
                  rw [if_pos htb] at kand
                  have hpw : 0 < 2 ^ n := Nat.pow_pos (by omega)
                  obtain ⟨x, hx⟩ : ∃ x : Nat, 2 ^ n = x := ⟨_, rfl⟩
                  rw [hx] at kand hpw
                  have q0 : ((x : Int) == 0) = false := by rw [beq_eq_false_iff_ne]; omega
                  have q0' : (x == 0) = false := by rw [beq_eq_false_iff_ne]; omega
                  clear hmj e htb hx hpw
                  go_wp2_with fail
                  refine (writes_any i _).mono ?_
                  rintro e w3 ⟨rfl, C3⟩
                  have HC3 := Lib.hid (HA0.out.step C3)
                  have HB3 := Lib.hid (C3.blk0 HBA.out)
                  clear C3
                  go_wp2_with fail
                  refine (bit_any ((m : Int) + 1) _).mono ?_
                  rintro e w4 ⟨rfl, rfl⟩
                  go_wp2_with fail
                  go_roundg (l.length - (j + 1))
                  case measure => have := HJ.out; omega
                  case rel => exact ⟨j + 1, by have := HJ.out; omega, by go_num, by rw [HNX.out, HE.out]; exact HB3.out, HCj.out.step HC3.out⟩
                · have e : oneF (nxi (nxN l) (wrN l) n) sj j = markL sj (nxN l j) := by
                    unfold oneF nxi
                    rw [if_pos hmj, HWR.out, if_neg htb]
                  have HE := Lib.hid e
                  rw [if_neg htb] at kand
                  clear hmj e htb
                  go_wp2_with fail
                  refine (writes_any i _).mono ?_
                  rintro e w3 ⟨rfl, C3⟩
                  have HC3 := Lib.hid (HA0.out.step C3)
                  have HB3 := Lib.hid (C3.blk0 HBA.out)
                  clear C3
                  go_wp2_with fail
                  refine (bit_any ((m : Int) + 1) _).mono ?_
                  rintro e w4 ⟨rfl, rfl⟩
                  go_wp2_with fail
                  refine (rnext_any _ _ l j _ (HS.out.chg0 (HC.out.step (HCj.out.step HC3.out))) hl HR.out (by omega)).mono ?_
                  rintro e w2 ⟨v2, rfl, hI, C2⟩
                  rw [nextF_nx] at hI
                  obtain ⟨p2, d2, rfl, hP2⟩ := hI.place
                  obtain ⟨ns, hns⟩ : ∃ ns, nxN l j = ns := ⟨_, rfl⟩
                  have hnb : ∀ n ∈ ns, n ≤ l.length := by rw [← hns]; exact nxN_le hltj
                  have hn2 : ns.length ≤ 2 := by rw [← hns, nxN_len]; exact nextF_len _ _
                  have HHI := Lib.hid hP2
                  rw [hns] at HHI HE ⊢
                  have HNB := Lib.hid hnb
                  have HB2 := Lib.hid (C2.blk0 HB3.out)
                  have HC2 := Lib.hid ((HCj.out.step HC3.out).step C2)
                  have hz33 := HC3.out.size
                  clear hI hP2 hnb hns C2 y0 c0 c1 c2 c3 c4 kand
                  go_wp2_with fail
                  go_loopg [49] ns.length (fun gk ix wr => ∃ i : Nat, i + gk = ns.length ∧ ix = .int .i64 i ∧ Blk wr wq.heap.size (bools (markL sj (ns.take i))) 4 ∧ Chg NoB wq wr ∧ Chg (· = wq.heap.size) w2 wr)
                  case atStart => exact ⟨0, by omega, rfl, HB2.out, HC2.out, Chg.refl _ _⟩
                  case round =>
                    obtain ⟨i', hi', rfl, hB, hC', hC2'⟩ := hrel
                    have HI := Lib.hid hi'
                    have HC5 := Lib.hid hC'
                    have HC4 := Lib.hid hC2'
                    have hil : i' ≤ ns.length := by omega
                    clear hi' hC' hC2'
                    by_cases hlti : i' < ns.length
                    · obtain ⟨q, hq⟩ : ∃ q, ns[i']? = some q := ⟨ns[i'], by simp [hlti]⟩
                      obtain ⟨hcap, g1, o1, rfl, hgB, hg1, x0⟩ := HHI.out i' q hq
                      have hnl := HNB.out q (List.mem_of_getElem? hq)
                      have x0 := HC4.out.cell x0 (fun e => by have e : g1 = wq.heap.size := e; omega)
                      have hfz := hB.frozen q
                      have hbl2 := hB.lt
                      have y0 := hB.cell' (i := q) (bools_at (by rw [markL_len]; have := HLJ.out; omega))
                      have BS := hB.set q (.bool true)
                      rw [bools_set, ← markL_snoc, ← (by rw [List.take_add_one, hq]; rfl : ns.take (i' + 1) = ns.take i' ++ [q])] at BS
                      have HBS := Lib.hid BS
                      have i0' : (0 : Int) ≤ i' := by omega
                      have i1' : (i' : Int) < ns.length := by omega
                      have q0 : (0 : Int) ≤ q := by omega
                      clear hq hB BS hgB
                      go_wp2_with fail
                      go_roundg (ns.length - (i' + 1))
                      case measure => have := HI.out; omega
                      case rel => exact ⟨i' + 1, by have := HI.out; omega, by go_num, HBS.out, HC5.out.setCell (a := ⟨wq.heap.size, q, none⟩) (.inr (Nat.le_refl _)) _, HC4.out.setCell (a := ⟨wq.heap.size, q, none⟩) (.inl rfl) _⟩
                    · obtain rfl : i' = ns.length := by omega
                      rw [List.take_length] at hB
                      have HB5 := Lib.hid hB
                      clear hB
                      go_wp2_with fail
                      go_roundg (l.length - (j + 1))
                      case measure => have := HJ.out; omega
                      case rel => exact ⟨j + 1, by have := HJ.out; omega, by go_num, by rw [HNX.out, HE.out]; exact HB5.out, HC5.out⟩
            · obtain rfl : j = l.length := by omega
              go_wp2_with fail
              go_roundg (l.length - (k + 1))
              case measure => have := HK.out; omega
              case rel =>
                refine ⟨k + 1, by have := HK.out; omega, by go_num, ?_, HCj.out⟩
                have e : roundsF (nxi (nxN l) (wrN l) n) l.length (k + 1) s1 = sj := by
                  show roundF (nxi (nxN l) (wrN l) n) l.length (roundsF (nxi (nxN l) (wrN l) n) l.length k s1) = _
                  rw [HSK.out]
                  exact HSJ.out
                rw [e]
                exact HBj.out
        · obtain rfl : k = l.length := by omega
          have hfr : fromF (nxi (nxN l) (wrN l) n) l.length [0] = sk := by unfold fromF; rw [HS1.out, HSK.out]
          have HFR := Lib.hid hfr
          clear hfr
          go_wp2_with fail
          go_loopg [3, 61] l.length (fun gk ov ix wr => ∃ j o2 : Nat, j + gk = l.length ∧ ix = .int .i64 j ∧ ov = .int .u16 o2 ∧ o2 < 65536 ∧ (List.range j).foldl (rawStep (rdN l) n sk) o = o2 ∧ Blk wr wq.heap.size (bools sk) 4 ∧ Chg NoB wq wr)
          case atStart => exact ⟨0, o, by omega, rfl, rfl, ho, rfl, HBk.out, HCk.out⟩
          case round =>
            obtain ⟨j, o2, hj, rfl, rfl, ho2, hfo2, hB, hC⟩ := hrel
            rename World => wr
            have HJ := Lib.hid hj
            have HFO2 := Lib.hid hfo2
            have HBj := Lib.hid hB
            have HCj := Lib.hid hC
            have hjl : j ≤ l.length := by omega
            have hnx2 : (List.range (j + 1)).foldl (rawStep (rdN l) n sk) o = rawStep (rdN l) n sk o2 j := by rw [List.range_succ, List.foldl_append, hfo2]; rfl
            have HNX2 := Lib.hid hnx2
            clear hj hfo2 hB hC hnx2
            by_cases hltj : j < l.length
            · have y0 := HBj.out.cell' (i := j) (bools_at (by have := HLK.out; omega))
              have hbl := HBj.out.lt
              have j0 : (0 : Int) ≤ j := by omega
              have j1 : (j : Int) < l.length := by omega
              have j2 : (j : Int) < l.length + 1 := by omega
              obtain ⟨i, hi⟩ : ∃ i, l[j]? = some i := ⟨l[j], by simp [hltj]⟩
              have hrd := rdN_at hi
              have HRD := Lib.hid hrd
              have hSr := HS.out.chg0 (HC.out.step HCj.out)
              obtain ⟨pi, ci, hpi, hIn⟩ := InsAt.of hSr (by omega)
              cases hpi
              obtain ⟨gi, oi, rfl, hgi, c0, c1, c2, c3, c4⟩ := hIn.at hi
              have hIcap := hIn.cap
              have A0 := (Chg.refl NoB wr).alloc (.cells #[.int .i64 i.op, .int .i64 i.rd, .int .i64 i.rs, .int .i64 i.rt, .int .i64 i.im] 32)
              have HA0 := Lib.hid A0
              have HBA := Lib.hid (HBj.out.alloc (.cells #[.int .i64 i.op, .int .i64 i.rd, .int .i64 i.rs, .int .i64 i.rt, .int .i64 i.im] 32))
              clear hi hrd hSr hIn A0
              cases hmj : mk sk j
              · rw [hmj] at y0
                have e : rawStep (rdN l) n sk o2 j = o2 := by unfold rawStep; rw [hmj]; rfl
                have HE := Lib.hid e
                clear hmj e
                go_wp2_with fail
                go_roundg (l.length - (j + 1))
                case measure => have := HJ.out; omega
                case rel => exact ⟨j + 1, o2, by have := HJ.out; omega, by go_num, rfl, ho2, by rw [HNX2.out, HE.out], HBA.out, HCj.out.step HA0.out⟩
              · rw [hmj] at y0
                have kand := bits_and16 (readsF_lt i) (bitR_lt ((m : Int) + 1))
                rw [and_bit HN.out hn15] at kand
                by_cases htb : (readsF i).testBit n = true
                · have e : rawStep (rdN l) n sk o2 j = o2 ||| 2 ^ n := by
                    unfold rawStep
                    rw [hmj, HRD.out, htb]
                    rfl
                  have kor := bits_or16 o2 (bitR ((m : Int) + 1)) ho2 (bitR_lt _)
                  have hb2 := bit_pow HN.out hn15
                  have hlt2 := Nat.or_lt_two_pow (n := 16) ho2 (pow_lt16 hn15)
                  rw [if_pos htb] at kand
                  have hpw : 0 < 2 ^ n := Nat.pow_pos (by omega)
                  obtain ⟨x, hx⟩ : ∃ x : Nat, 2 ^ n = x := ⟨_, rfl⟩
                  rw [hx] at kand hpw e hb2 hlt2
                  have HE := Lib.hid e
                  have HB2 := Lib.hid hb2
                  have q0 : ((x : Int) != 0) = true := by rw [bne_iff_ne]; omega
                  have q0' : (x != 0) = true := by rw [bne_iff_ne]; omega
                  have HL2 := Lib.hid hlt2
                  clear hmj e htb hx hpw hb2 hlt2
                  go_wp2_with fail
                  refine (reads_any i _).mono ?_
                  rintro e w3 ⟨rfl, C3⟩
                  have HC3 := Lib.hid (HA0.out.step C3)
                  have HB3 := Lib.hid (C3.blk0 HBA.out)
                  clear C3
                  go_wp2_with fail
                  refine (bit_any ((m : Int) + 1) _).mono ?_
                  rintro e w4 ⟨rfl, rfl⟩
                  go_wp2_with fail
                  refine (bit_any ((m : Int) + 1) _).mono ?_
                  rintro e w4 ⟨rfl, rfl⟩
                  go_wp2_with fail
                  go_roundg (l.length - (j + 1))
                  case measure => have := HJ.out; omega
                  case rel => exact ⟨j + 1, o2 ||| bitR ((m : Int) + 1), by have := HJ.out; omega, by go_num, rfl, by rw [HB2.out]; exact HL2.out, by rw [HNX2.out, HE.out, HB2.out], HB3.out, HCj.out.step HC3.out⟩
                · have htb' : (readsF i).testBit n = false := by simpa using htb
                  have e : rawStep (rdN l) n sk o2 j = o2 := by unfold rawStep; rw [hmj, HRD.out, htb']; rfl
                  have HE := Lib.hid e
                  rw [if_neg htb] at kand
                  clear hmj e htb htb'
                  go_wp2_with fail
                  refine (reads_any i _).mono ?_
                  rintro e w3 ⟨rfl, C3⟩
                  have HC3 := Lib.hid (HA0.out.step C3)
                  have HB3 := Lib.hid (C3.blk0 HBA.out)
                  clear C3
                  go_wp2_with fail
                  refine (bit_any ((m : Int) + 1) _).mono ?_
                  rintro e w4 ⟨rfl, rfl⟩
                  go_wp2_with fail
                  go_roundg (l.length - (j + 1))
                  case measure => have := HJ.out; omega
                  case rel => exact ⟨j + 1, o2, by have := HJ.out; omega, by go_num, rfl, ho2, by rw [HNX2.out, HE.out], HB3.out, HCj.out.step HC3.out⟩
            · obtain rfl : j = l.length := by omega
              have he : rawReg (nxN l) l.length (wrN l) (rdN l) o (m + 1) = o2 := by
                unfold rawReg
                rw [HN.out, HFR.out]
                exact HFO2.out
              have HE := Lib.hid he
              clear he
              go_wp2_with fail
              go_roundg (15 - (m + 1))
              case measure => have := HM.out; have := HN.out; omega
              case rel => exact ⟨m + 1, o2, by have := HM.out; have := HN.out; omega, by go_num, rfl, ho2, by rw [HNXO.out, HE.out], HC.out.step HCj.out⟩
    · obtain rfl : m = 15 := by omega
      have he : rawF (nxN l) l.length (wrN l) (rdN l) = o := by rw [← HFO.out]; rfl
      have HE := Lib.hid he
      clear he
      go_wp2_with fail
      go_ret
      exact ⟨by rw [HE.out]; rfl, HC.out⟩
end Go.Proofs.Ytdkplhdinklflaa
