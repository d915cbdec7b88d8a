/- Loops and the longest way, by the reference. No condition. -/
import Derived.Test.YtdkplhdinklflaaFlow7
import Derived.Test.YtdkplhdinklflaaFlowP2
set_option linter.unusedVariables false
namespace Go.Proofs.Ytdkplhdinklflaa
open Go.RowKit Go.RR

theorem fromF_take_len (l : List In) (st : List Nat) : ((fromF (nxN l) l.length st).take l.length).length = l.length := by
  rw [List.length_take, fromF_len (nx := nxN l) (N := l.length) (fun p hp => nxN_le hp)]; omega
theorem mk_take {s : List Bool} {n k : Nat} (h : k < n) : mk (s.take n) k = mk s k := by
  unfold mk
  rw [List.getD_eq_getElem?_getD, List.getD_eq_getElem?_getD, List.getElem?_take_of_lt h]
theorem any_range_snoc (f : Nat → Bool) (k : Nat) : (List.range (k + 1)).any f = ((List.range k).any f || f k) := by
  rw [List.range_succ, List.any_append]
  simp
theorem any_range_yes {f : Nat → Bool} {n k : Nat} (h : k < n) (hf : f k = true) : (List.range n).any f = true := List.any_eq_true.2 ⟨k, List.mem_range.2 h, hf⟩

set_option maxHeartbeats 2000000 in
set_option maxRecDepth 100000 in
theorem rloops_any (S : Nat → Prop) (v : Value) (l : List In) (w : World) (hs : Sl w S 5 v l.length (icells l)) (hl : l.length ≤ 40) (hr : ∀ i ∈ l, rightB i = true) :
    Calls Try.prog 46 #[v] w (RetW (.bool (loopF (nxN l) l.length)) fun w' => Chg NoB w w') := by
  obtain ⟨pv, cv, rfl⟩ := hs.form
  have HS := Lib.hid hs
  have HR := Lib.hid hr
  clear hs hr
  by_cases h0 : l.length = 0
  · have e : loopF (nxN l) l.length = false := by rw [h0]; rfl
    have q0 : ((l.length : Int) == 0) = true := by simp [h0]
    have q0' : (l.length == 0) = true := by simp [h0]
    have E := Lib.hid e
    clear e h0
    go_enter Try.func46, Try.ntmps46
    go_wp2_with fail
    go_ret
    exact ⟨ret_bool E.out.symm, Chg.refl _ _⟩
  · have q0 : ((l.length : Int) == 0) = false := by rw [beq_eq_false_iff_ne]; omega
    have q0' : (l.length == 0) = false := by rw [beq_eq_false_iff_ne]; omega
    have F0 := IAtN.fresh (Nat.le_refl w.heap.size) [(0 : Int)]
    have A0 := (Chg.refl NoB w).alloc (.cells ([(0 : Int)].map (Value.int .i64)).toArray 3)
    have hpos : 0 < l.length := by omega
    have HF0 := Lib.hid F0
    have HA0 := Lib.hid A0
    clear h0 F0 A0
    go_enter Try.func46, Try.ntmps46
    go_wp2_with fail
    refine (rfrom_any _ _ _ l [0] _ (HS.out.chg0 HA0.out) hl HR.out HF0.out.ints (by simp) (by simp)).mono ?_
    rintro e w1 ⟨y, rfl, hI, C1⟩
    obtain ⟨p1, c1, hy⟩ := hI.form
    rw [fromF_take_len] at hy
    subst hy
    have HI := Lib.hid hI
    have HC1 := Lib.hid (HA0.out.step C1)
    clear hI C1
    go_wp2_with fail
    go_loopg [12] l.length (fun gk ix wr => ∃ j : Nat, j + gk = l.length ∧ ix = .int .i64 j ∧ ((List.range j).any fun p => mk (fromF (nxN l) l.length [0]) p && mk (fromF (nxN l) l.length (nxN l p)) p) = false ∧ Chg NoB w wr ∧ Chg NoB w1 wr)
    case atStart => exact ⟨0, by omega, rfl, rfl, HC1.out, Chg.refl _ _⟩
    case round =>
      obtain ⟨j, hj, rfl, hA, hC, hC1⟩ := hrel
      have HJ := Lib.hid hj
      have HAN := Lib.hid hA
      have HC := Lib.hid hC
      have HC2 := Lib.hid hC1
      have hjl : j ≤ l.length := by omega
      clear hj hA hC hC1
      by_cases hlt : j < l.length
      · obtain ⟨-, hcap, g1, o1, rfl, hg1, x0⟩ := (HI.out.chg0 HC2.out).spot (k := j) (by rw [fromF_take_len]; exact hlt)
        rw [mk_take hlt] at x0
        have j0 : (0 : Int) ≤ j := by omega
        have j1 : (j : Int) < l.length := by omega
        cases hm : mk (fromF (nxN l) l.length [0]) j
        · rw [hm] at x0
          have HM := Lib.hid hm
          clear hm
          go_wp2_with fail
          go_roundg (l.length - (j + 1))
          case measure => have := HJ.out; omega
          case rel => exact ⟨j + 1, by have := HJ.out; omega, by go_num, by rw [any_range_snoc, HAN.out, HM.out]; rfl, HC.out, HC2.out⟩
        · rw [hm] at x0
          have HM := Lib.hid hm
          clear hm
          go_wp2_with fail
          refine (rnext_any _ _ l j _ (HS.out.chg0 HC.out) hl HR.out (by omega)).mono ?_
          rintro e w2 ⟨v2, rfl, hI2, C2⟩
          rw [nextF_nx] at hI2
          have HI2 := Lib.hid hI2
          have HC3 := Lib.hid C2
          obtain ⟨p2, c2, rfl, -⟩ := hI2.place
          clear hI2 C2 x0
          go_wp2_with fail
          refine (rfrom_any _ _ _ l (nxN l j) _ (HS.out.chg0 (HC.out.step HC3.out)) hl HR.out HI2.out.ints (nxN_le hlt) (by rw [nxN_len]; have := nextF_len l j; omega)).mono ?_
          rintro e w3 ⟨y3, rfl, hI3, C3⟩
          obtain ⟨p3, c3, hy⟩ := hI3.form
          rw [fromF_take_len] at hy
          subst hy
          obtain ⟨-, hcap3, g3, o3, rfl, hg3, x3⟩ := hI3.spot (k := j) (by rw [fromF_take_len]; exact hlt)
          rw [mk_take hlt] at x3
          have HC4 := Lib.hid (HC3.out.step C3)
          clear hI3 C3
          cases hm2 : mk (fromF (nxN l) l.length (nxN l j)) j
          · rw [hm2] at x3
            have HM2 := Lib.hid hm2
            clear hm2
            go_wp2_with fail
            go_roundg (l.length - (j + 1))
            case measure => have := HJ.out; omega
            case rel => exact ⟨j + 1, by have := HJ.out; omega, by go_num, by rw [any_range_snoc, HAN.out, HM.out, HM2.out]; rfl, HC.out.step HC4.out, HC2.out.step HC4.out⟩
          · rw [hm2] at x3
            have HM2 := Lib.hid hm2
            clear hm2
            go_wp2_with fail
            go_ret
            refine ⟨ret_bool ?_, HC.out.step HC4.out⟩
            symm
            exact any_range_yes hlt (by rw [HM.out, HM2.out]; rfl)
      · obtain rfl : j = l.length := by omega
        go_wp2_with fail
        go_ret
        exact ⟨ret_bool HAN.out.symm, HC.out⟩

def nums (s : List Int) : Array Value := (s.map (Value.int .i64)).toArray
theorem nums_size (s : List Int) : (nums s).size = s.length := by simp [nums]
theorem nums_set (s : List Int) (p : Nat) (x : Int) : (nums s).setIfInBounds p (.int .i64 x) = nums (s.set p x) := by simp [nums, List.map_set]
theorem nums_at {s : List Int} {p : Nat} (hp : p < s.length) : (nums s)[p]? = some (.int .i64 (s.getD p 0)) := by
  unfold nums
  simp [hp]
theorem IntInfo : (Try.prog.info? 3).map (fun i => (i.zero, i.size, i.bytes)) = some (some (.int .i64 0), 1, 8) := by kernel_rfl
theorem made_nums (n : Nat) : madeCells (Value.int .i64 0).cells (n * 1) = nums (List.replicate n 0) := by
  rw [Nat.mul_one]
  apply Array.ext_getElem?
  intro k
  unfold madeCells nums
  by_cases hk : k < n
  · simp [Value.cells, hk, Nat.mod_one]
  · simp [hk]
/-- All numbers are between 0 and N. -/
def Within0 (N : Nat) (s : List Int) : Prop := ∀ q, 0 ≤ s.getD q 0 ∧ s.getD q 0 ≤ N
theorem Within0.max {N : Nat} {s : List Int} (h : Within0 N s) (ns : List Nat) : 0 ≤ ns.foldl (fun b n => max b (s.getD n 0)) 0 ∧ ns.foldl (fun b n => max b (s.getD n 0)) 0 ≤ N :=
  ⟨(foldl_max_ge (fun n => s.getD n 0) ns 0).1, foldl_max_le (g := fun n => s.getD n 0) ns 0 (by omega) fun n _ => (h n).2⟩
theorem Within0.one {nx : Nat → List Nat} {N : Nat} {s : List Int} (h : Within0 N s) (p : Nat) : Within0 N (bestOne nx N s p) := by
  intro q
  unfold bestOne
  by_cases hp : p < s.length
  · rw [getD_set hp]
    by_cases hq : q = p
    · rw [if_pos hq]; have := h.max (nx p); omega
    · rw [if_neg hq]; exact h q
  · rw [List.set_eq_of_length_le (by omega)]; exact h q
theorem Within0.fold {nx : Nat → List Nat} {N : Nat} : ∀ (ps : List Nat) (s : List Int), Within0 N s → Within0 N (ps.foldl (bestOne nx N) s)
  | [], s, h => h
  | p :: ps, s, h => Within0.fold ps _ (h.one p)
theorem Within0.zero (N n : Nat) : Within0 N (List.replicate n 0) := by
  intro q
  have : (List.replicate n (0 : Int)).getD q 0 = 0 := by
    rw [List.getD_eq_getElem?_getD, List.getElem?_replicate]
    split <;> rfl
  rw [this]; omega
theorem best_foldlen (nx : Nat → List Nat) (N : Nat) : ∀ (ps : List Nat) (s : List Int), (ps.foldl (bestOne nx N) s).length = s.length
  | [], s => rfl
  | p :: ps, s => by rw [List.foldl_cons, best_foldlen nx N ps, bestOne_len]
theorem Within0.rounds {nx : Nat → List Nat} {N : Nat} {s : List Int} (h : Within0 N s) : ∀ k, Within0 N (bestRounds nx N k s) ∧ (bestRounds nx N k s).length = s.length
  | 0 => ⟨h, rfl⟩
  | k + 1 => by
    obtain ⟨h1, h2⟩ := Within0.rounds h k
    exact ⟨Within0.fold _ _ h1, by show (bestRound nx N _).length = _; unfold bestRound; rw [best_foldlen, h2]⟩
/-- The longest way, and whether there is one. -/
def longF (l : List In) : Int := if loopF (nxN l) l.length = true then 0 else if l.length = 0 then 0 else bestF (nxN l) l.length

set_option maxHeartbeats 4000000 in
set_option maxRecDepth 100000 in
theorem rlongest_any (S : Nat → Prop) (v : Value) (l : List In) (w : World) (hs : Sl w S 5 v l.length (icells l)) (hl : l.length ≤ 40) (hr : ∀ i ∈ l, rightB i = true) :
    Calls Try.prog 44 #[v] w (RetW (.tuple #[.int .i64 (longF l), .bool (!loopF (nxN l) l.length)]) fun w' => Chg NoB w w') := by
  obtain ⟨j0, hj0, hz0, hz1, hz2⟩ := info_parts IntInfo
  have hmk : ∀ W, (Instr.makeSlice 47 (.int .i64 ((l.length : Int) + 1)) (.int .i64 ((l.length : Int) + 1))).run Try.prog W = .ok (.slice (some ⟨W.heap.size, 0, none⟩) (l.length + 1) (l.length + 1)) (W.alloc (.cells (nums (List.replicate (l.length + 1) 0)) 3)) := by
    intro W
    have h := run_make (P := Try.prog) W 47 3 j0 _ Try.underlying47 hj0 hz0 .i64 .i64 ((l.length : Int) + 1) ((l.length : Int) + 1) (by omega) (by omega) (by rw [hz2]; omega) (by omega)
    rw [hz1, show ((l.length : Int) + 1).toNat = l.length + 1 by omega, made_nums] at h
    exact h
  obtain ⟨pv, cv, rfl⟩ := hs.form
  have HS := Lib.hid hs
  have HR := Lib.hid hr
  have HMK := Lib.hid hmk
  clear hs hr hmk
  cases hlp : loopF (nxN l) l.length
  · by_cases h0 : l.length = 0
    · have e : longF l = 0 := by unfold longF; rw [hlp, if_neg (by simp), if_pos h0]
      have q0 : ((l.length : Int) == 0) = true := by simp [h0]
      have q0' : (l.length == 0) = true := by simp [h0]
      have E := Lib.hid e
      have HLP := Lib.hid hlp
      clear e h0 hlp
      go_enter Try.func44, Try.ntmps44
      go_wp2_with fail
      refine (rloops_any _ _ l _ HS.out hl HR.out).mono ?_
      rintro e w1 ⟨rfl, C1⟩
      rw [HLP.out]
      have HC1 := Lib.hid C1
      clear C1
      go_wp2_with fail
      go_ret2
      exact ⟨by rw [E.out]; rfl, HC1.out⟩
    · have e : longF l = bestF (nxN l) l.length := by unfold longF; rw [hlp, if_neg (by simp), if_neg h0]
      have q0 : ((l.length : Int) == 0) = false := by rw [beq_eq_false_iff_ne]; omega
      have q0' : (l.length == 0) = false := by rw [beq_eq_false_iff_ne]; omega
      have hpos : 0 < l.length := by omega
      have E := Lib.hid e
      have HLP := Lib.hid hlp
      clear e h0 hlp
      go_enter Try.func44, Try.ntmps44
      go_wp2_with fail
      refine (rloops_any _ _ l _ HS.out hl HR.out).mono ?_
      rintro e w1 ⟨rfl, C1⟩
      rw [HLP.out]
      have HC1 := Lib.hid (C1.alloc (.cells (nums (List.replicate (l.length + 1) 0)) 3))
      have B1 := Blk.new w1 (nums (List.replicate (l.length + 1) 0)) 3
      have hzw := C1.size
      have hmk := HMK.out
      clear C1
      go_wp2_with fail
      clear hmk
      go_loopg [20] l.length (fun gk ix wr => ∃ k : Nat, k + gk = l.length ∧ ix = .int .i64 k ∧ Blk wr w1.heap.size (nums (bestRounds (nxN l) l.length k (List.replicate (l.length + 1) 0))) 3 ∧ Chg NoB w wr)
      case atStart => exact ⟨0, by omega, rfl, B1, HC1.out⟩
      case round =>
        obtain ⟨k, hk, rfl, hB, hC⟩ := hrel
        have HK := Lib.hid hk
        have hkl : k ≤ l.length := by omega
        obtain ⟨hwk, hlk⟩ := Within0.rounds (nx := nxN l) (Within0.zero l.length (l.length + 1)) k
        rw [List.length_replicate] at hlk
        obtain ⟨sk, hsk⟩ : ∃ sk, bestRounds (nxN l) l.length k (List.replicate (l.length + 1) 0) = sk := ⟨_, rfl⟩
        rw [hsk] at hB hwk hlk
        have HSK := Lib.hid hsk
        have HLK := Lib.hid hlk
        have HWK := Lib.hid hwk
        have HBk := Lib.hid hB
        have HCk := Lib.hid hC
        clear hk hB hC hsk hlk hwk B1
        by_cases hlt : k < l.length
        · go_wp2_with fail
          go_loopg [24] l.length (fun gk ix wr => ∃ j : Nat, j + gk = l.length ∧ ix = .int .i64 j ∧ Blk wr w1.heap.size (nums ((List.range j).foldl (bestOne (nxN l) l.length) sk)) 3 ∧ Chg NoB w wr)
          case atStart => exact ⟨0, by omega, rfl, HBk.out, HCk.out⟩
          case round =>
            obtain ⟨j, hj, rfl, hB, hC⟩ := hrel
            have HJ := Lib.hid hj
            have hjl : j ≤ l.length := by omega
            obtain ⟨sj, hsj⟩ : ∃ sj, (List.range j).foldl (bestOne (nxN l) l.length) sk = sj := ⟨_, rfl⟩
            have hlj : sj.length = l.length + 1 := by rw [← hsj, best_foldlen]; exact HLK.out
            have hwj : Within0 l.length sj := by rw [← hsj]; exact Within0.fold _ _ HWK.out
            rw [hsj] at hB
            have hnx : (List.range (j + 1)).foldl (bestOne (nxN l) l.length) sk = bestOne (nxN l) l.length sj j := by rw [List.range_succ, List.foldl_append, hsj]; rfl
            have HSJ := Lib.hid hsj
            have HLJ := Lib.hid hlj
            have HWJ := Lib.hid hwj
            have HBj := Lib.hid hB
            have HCj := Lib.hid hC
            have HNX := Lib.hid hnx
            clear hj hB hC hsj hlj hnx hwj HBk HCk
            by_cases hltj : j < l.length
            · have hbl := HBj.out.lt
              have j0 : (0 : Int) ≤ j := by omega
              have j1 : (j : Int) < l.length + 1 := by omega
              go_wp2_with fail
              refine (rnext_any _ _ l j _ (HS.out.chg HCj.out fun k hk e => e) hl HR.out (by omega)).mono ?_
              rintro e w2 ⟨v2, rfl, hI, C2⟩
              rw [nextF_nx] at hI
              obtain ⟨p2, c2, rfl, hP2⟩ := hI.place
              obtain ⟨ns, hns⟩ : ∃ ns, nxN l j = ns := ⟨_, rfl⟩
              have hnb : ∀ n ∈ ns, n ≤ l.length := by rw [← hns]; exact nxN_le hltj
              have hn2 : ns.length ≤ 2 := by rw [← hns, nxN_len]; exact nextF_len _ _
              have HHI := Lib.hid hP2
              rw [hns] at HHI ⊢
              have HNS := Lib.hid hns
              have HNB := Lib.hid hnb
              have HB2 := Lib.hid (C2.blk0 HBj.out)
              have HC2 := Lib.hid (HCj.out.step C2)
              clear hI hP2 hnb hns C2
              go_wp2_with fail
              go_loopg [6, 31] ns.length (fun gk mv ix wr => ∃ i : Nat, i + gk = ns.length ∧ ix = .int .i64 i ∧ mv = .int .i64 ((ns.take i).foldl (fun b n => max b (sj.getD n 0)) 0) ∧ w2 = wr)
              case atStart => exact ⟨0, by omega, rfl, rfl, rfl⟩
              case round =>
                obtain ⟨i, hi, rfl, rfl, rfl⟩ := hrel
                have HI := Lib.hid hi
                have hil : i ≤ ns.length := by omega
                obtain ⟨hm0, hm1⟩ := HWJ.out.max (ns.take i)
                obtain ⟨m, hm⟩ : ∃ m, (ns.take i).foldl (fun b n => max b (sj.getD n 0)) 0 = m := ⟨_, rfl⟩
                rw [hm] at hm0 hm1 ⊢
                have HM := Lib.hid hm
                clear hi hm
                by_cases hlti : i < ns.length
                · obtain ⟨n, hn⟩ : ∃ n, ns[i]? = some n := ⟨ns[i], by simp [hlti]⟩
                  obtain ⟨hcap, g1, o1, rfl, hgB, hg1, x0⟩ := HHI.out i n hn
                  have hnl := HNB.out n (List.mem_of_getElem? hn)
                  have y0 := HB2.out.cell' (i := n) (nums_at (by rw [HLJ.out]; omega))
                  have hbl2 := HB2.out.lt
                  have hft := fold_take (fun (b : Int) (n : Nat) => max b (sj.getD n 0)) 0 ns i n hn
                  rw [HM.out] at hft
                  obtain ⟨hx0, hx1⟩ := HWJ.out n
                  obtain ⟨x, hx⟩ : ∃ x, sj.getD n 0 = x := ⟨_, rfl⟩
                  rw [hx] at y0 hft hx0 hx1
                  have HFT := Lib.hid hft
                  have i0' : (0 : Int) ≤ i := by omega
                  have i1' : (i : Int) < ns.length := by omega
                  have n0 : (0 : Int) ≤ n := by omega
                  clear hn hft hx
                  by_cases hmx : m < x
                  · go_wp2_with fail
                    go_roundg (ns.length - (i + 1))
                    case measure => have := HI.out; omega
                    case rel => exact ⟨i + 1, by have := HI.out; omega, by go_num, by rw [HFT.out, Int.max_eq_right (by omega)], rfl⟩
                  · go_wp2_with fail
                    go_roundg (ns.length - (i + 1))
                    case measure => have := HI.out; omega
                    case rel => exact ⟨i + 1, by have := HI.out; omega, by go_num, by rw [HFT.out, Int.max_eq_left (by omega)], rfl⟩
                · obtain rfl : i = ns.length := by omega
                  rw [List.take_length] at HM
                  have hfz := HB2.out.frozen j
                  have hbl2 := HB2.out.lt
                  have y0 := HB2.out.cell' (i := j) (nums_at (by rw [HLJ.out]; omega))
                  have hbo : bestOne (nxN l) l.length sj j = sj.set j (min (m + 1) l.length) := by unfold bestOne; rw [HNS.out, HM.out]
                  have HBO := Lib.hid hbo
                  clear hbo
                  by_cases hmn : (l.length : Int) < m + 1
                  · have hmi : min (m + 1) (l.length : Int) = l.length := Int.min_eq_right (by omega)
                    have BS := HB2.out.set j (.int .i64 l.length)
                    rw [nums_set] at BS
                    have HBS := Lib.hid BS
                    have HMI := Lib.hid hmi
                    clear BS hmi
                    go_wp2_with fail
                    go_roundg (l.length - (j + 1))
                    case measure => have := HJ.out; omega
                    case rel => exact ⟨j + 1, by have := HJ.out; omega, by go_num, by rw [HNX.out, HBO.out, HMI.out]; exact HBS.out, HC2.out.setCell (a := ⟨w1.heap.size, j, none⟩) (.inr hzw) _⟩
                  · have hmi : min (m + 1) (l.length : Int) = m + 1 := Int.min_eq_left (by omega)
                    have BS := HB2.out.set j (.int .i64 (m + 1))
                    rw [nums_set] at BS
                    have HBS := Lib.hid BS
                    have HMI := Lib.hid hmi
                    clear BS hmi
                    go_wp2_with fail
                    go_roundg (l.length - (j + 1))
                    case measure => have := HJ.out; omega
                    case rel => exact ⟨j + 1, by have := HJ.out; omega, by go_num, by rw [HNX.out, HBO.out, HMI.out]; exact HBS.out, HC2.out.setCell (a := ⟨w1.heap.size, j, none⟩) (.inr hzw) _⟩
            · obtain rfl : j = l.length := by omega
              go_wp2_with fail
              go_roundg (l.length - (k + 1))
              case measure => have := HK.out; omega
              case rel =>
                refine ⟨k + 1, by have := HK.out; omega, by go_num, ?_, HCj.out⟩
                have e : bestRounds (nxN l) l.length (k + 1) (List.replicate (l.length + 1) 0) = sj := by
                  show bestRound (nxN l) l.length (bestRounds (nxN l) l.length k (List.replicate (l.length + 1) 0)) = _
                  rw [HSK.out]
                  exact HSJ.out
                rw [e]
                exact HBj.out
        · obtain rfl : k = l.length := by omega
          have y0 := HBk.out.cell' (i := 0) (nums_at (by rw [HLK.out]; omega))
          have hbl2 := HBk.out.lt
          have hbf : bestF (nxN l) l.length = sk.getD 0 0 := by unfold bestF; rw [HSK.out]
          have HBF := Lib.hid hbf
          clear hbf
          go_wp2_with fail
          go_ret2
          exact ⟨by rw [E.out, HBF.out]; rfl, HCk.out⟩
  · have e : longF l = 0 := by unfold longF; rw [hlp, if_pos rfl]
    have E := Lib.hid e
    have HLP := Lib.hid hlp
    clear e hlp
    go_enter Try.func44, Try.ntmps44
    go_wp2_with fail
    refine (rloops_any _ _ l _ HS.out hl HR.out).mono ?_
    rintro e w1 ⟨rfl, C1⟩
    rw [HLP.out]
    have HC1 := Lib.hid C1
    clear C1
    go_wp2_with fail
    go_ret2
    exact ⟨by rw [E.out]; rfl, HC1.out⟩
end Go.Proofs.Ytdkplhdinklflaa
