/- Which places may be come to, by the reference. No condition. -/
import Derived.Test.YtdkplhdinklflaaFlow6
set_option linter.unusedVariables false
namespace Go.Proofs.Ytdkplhdinklflaa
open Go.RowKit Go.RR


set_option maxHeartbeats 4000000 in
set_option maxRecDepth 100000 in
theorem rfrom_any (S : Nat → Prop) (v sv : Value) (l : List In) (st : List Nat) (w : World) (hs : Sl w S 5 v l.length (icells l)) (hl : l.length ≤ 40) (hr : ∀ i ∈ l, rightB i = true) (hst : IAt w sv (st.map fun n : Nat => (n : Int))) (hsb : ∀ n ∈ st, n ≤ l.length) (hsl : st.length ≤ 10) :
    Calls Try.prog 42 #[v, sv] w (RetSl fun y w' => BAtN w.heap.size w' y ((fromF (nxN l) l.length st).take l.length) ∧ Chg NoB w w') := by
  obtain ⟨i0, hi0, hz0, hz1, hz2⟩ := info_parts BoolInfo
  have hmk : ∀ W, (Instr.makeSlice 53 (.int .i64 ((l.length : Int) + 1)) (.int .i64 ((l.length : Int) + 1))).run Try.prog W = .ok (.slice (some ⟨W.heap.size, 0, none⟩) (l.length + 1) (l.length + 1)) (W.alloc (.cells (bools (List.replicate (l.length + 1) false)) 4)) := by
    intro W
    have h := run_make (P := Try.prog) W 53 4 i0 _ Try.underlying53 hi0 hz0 .i64 .i64 ((l.length : Int) + 1) ((l.length : Int) + 1) (by omega) (by omega) (by rw [hz2]; omega) (by omega)
    rw [hz1, show ((l.length : Int) + 1).toNat = l.length + 1 by omega, made_bools] at h
    exact h
  obtain ⟨pv, cv, rfl⟩ := hs.form
  have hst' : IAtN 0 w sv (st.map fun n : Nat => (n : Int)) := by obtain ⟨S', h⟩ := hst; exact Sl.mono h fun _ _ => Nat.zero_le _
  obtain ⟨p1, c1, rfl, hP⟩ := hst'.place
  have hs' := hs.monoIn (S' := fun k => k < w.heap.size) fun k h _ => h
  have HS := Lib.hid hs'
  have HR := Lib.hid hr
  have HP := Lib.hid hP
  have HSB := Lib.hid hsb
  have A1 := Lib.hid ((Chg.refl NoB w).alloc (.cells (bools (List.replicate (l.length + 1) false)) 4))
  have B1 := Blk.new w (bools (List.replicate (l.length + 1) false)) 4
  have hw1 : (w.alloc (.cells (bools (List.replicate (l.length + 1) false)) 4)).heap.size = w.heap.size + 1 := by simp
  clear hs hs' hr hst hst' hP hsb hw1
  go_enter Try.func42, Try.ntmps42
  go_wp2_with fail
  clear hmk
  go_loopg [17] st.length (fun gk ix wr => ∃ k : Nat, k + gk = st.length ∧ ix = .int .i64 k ∧ Blk wr w.heap.size (bools (markL (List.replicate (l.length + 1) false) (st.take k))) 4 ∧ Chg NoB w wr)
  case atStart => exact ⟨0, by omega, rfl, B1, A1.out⟩
  case round =>
    obtain ⟨k, hk, rfl, hB, hC⟩ := hrel
    have HK := Lib.hid hk
    have HC := Lib.hid hC
    have hkl : k ≤ st.length := by omega
    clear hk hC B1
    by_cases hlt : k < st.length
    · obtain ⟨n, hn⟩ : ∃ n, st[k]? = some n := ⟨st[k], by simp [hlt]⟩
      obtain ⟨hcap, g1, o1, rfl, -, hg1, x0⟩ := HP.out k n hn
      have hnl := HSB.out n (List.mem_of_getElem? hn)
      have x0 := HC.out.cell x0 id
      have hfz := hB.frozen n
      have hln : (bools (markL (List.replicate (l.length + 1) false) (st.take k))).size = l.length + 1 := by rw [bools_size, markL_len]; simp
      have hbl := hB.lt
      have y0 := hB.cell' (i := n) (bools_at (by rw [markL_len]; simp; omega))
      have BS := hB.set n (.bool true)
      rw [bools_set, ← markL_snoc, ← (by rw [List.take_add_one, hn]; rfl : st.take (k + 1) = st.take k ++ [n])] at BS
      have HBS := Lib.hid BS
      have k0 : (0 : Int) ≤ k := by omega
      have k1 : (k : Int) < st.length := by omega
      have n0 : (0 : Int) ≤ n := by omega
      have HN := Lib.hid hn
      clear hn hB BS hln
      go_wp2_with fail
      go_roundg (st.length - (k + 1))
      case measure => have := HK.out; omega
      case rel => exact ⟨k + 1, by have := HK.out; omega, by go_num, HBS.out, HC.out.setCell (a := ⟨w.heap.size, n, none⟩) (.inr (Nat.le_refl _)) _⟩
    · obtain rfl : st.length = k := by omega
      rw [List.take_length] at hB
      obtain ⟨s1, hs1⟩ : ∃ s1, markL (List.replicate (l.length + 1) false) st = s1 := ⟨_, rfl⟩
      have hl1 : s1.length = l.length + 1 := by rw [← hs1, markL_len]; simp
      rw [hs1] at hB
      have HS1 := Lib.hid hs1
      have HL1 := Lib.hid hl1
      have HB := Lib.hid hB
      clear hs1 hl1 hB
      go_wp2_with fail
      go_loopg [27] l.length (fun gk ix wr => ∃ k : Nat, k + gk = l.length ∧ ix = .int .i64 k ∧ Blk wr w.heap.size (bools (roundsF (nxN l) l.length k s1)) 4 ∧ Chg NoB w wr)
      case atStart => exact ⟨0, by omega, rfl, HB.out, HC.out⟩
      case round =>
        obtain ⟨k, hk, rfl, hB, hC⟩ := hrel
        have HK := Lib.hid hk
        have hkl : k ≤ l.length := by omega
        obtain ⟨sk, hsk⟩ : ∃ sk, roundsF (nxN l) l.length k s1 = sk := ⟨_, rfl⟩
        have hlk : sk.length = l.length + 1 := by rw [← hsk, roundsF_len]; exact HL1.out
        rw [hsk] at hB
        have HSK := Lib.hid hsk
        have HLK := Lib.hid hlk
        have HBk := Lib.hid hB
        have HCk := Lib.hid hC
        clear hk hB hC hsk hlk HB HC
        by_cases hlt : k < l.length
        · go_wp2_with fail
          go_loopg [31] l.length (fun gk ix wr => ∃ j : Nat, j + gk = l.length ∧ ix = .int .i64 j ∧ Blk wr w.heap.size (bools ((List.range j).foldl (oneF (nxN l)) sk)) 4 ∧ Chg NoB w wr)
          case atStart => exact ⟨0, by omega, rfl, HBk.out, HCk.out⟩
          case round =>
            obtain ⟨j, hj, rfl, hB, hC⟩ := hrel
            have HJ := Lib.hid hj
            have hjl : j ≤ l.length := by omega
            obtain ⟨sj, hsj⟩ : ∃ sj, (List.range j).foldl (oneF (nxN l)) sk = sj := ⟨_, rfl⟩
            have hlj : sj.length = l.length + 1 := by rw [← hsj, oneF_foldlen]; exact HLK.out
            rw [hsj] at hB
            have hnx : (List.range (j + 1)).foldl (oneF (nxN l)) sk = oneF (nxN l) sj j := by rw [List.range_succ, List.foldl_append, hsj]; rfl
            have HSJ := Lib.hid hsj
            have HLJ := Lib.hid hlj
            have HBj := Lib.hid hB
            have HCj := Lib.hid hC
            have HNX := Lib.hid hnx
            clear hj hB hC hsj hlj hnx HBk HCk
            by_cases hltj : j < l.length
            · have y0 := HBj.out.cell' (i := j) (bools_at (by have := HLJ.out; omega))
              have hbl := HBj.out.lt
              have j0 : (0 : Int) ≤ j := by omega
              have j1 : (j : Int) < l.length + 1 := by omega
              cases hm : mk sj j
              · rw [hm] at y0
                have e : oneF (nxN l) sj j = sj := by unfold oneF; rw [if_neg (by rw [hm]; simp)]
                have HE := Lib.hid e
                clear hm e
                go_wp2_with fail
                go_roundg (l.length - (j + 1))
                case measure => have := HJ.out; omega
                case rel => exact ⟨j + 1, by have := HJ.out; omega, by go_num, by rw [HNX.out, HE.out]; exact HBj.out, HCj.out⟩
              · rw [hm] at y0
                have e : oneF (nxN l) sj j = markL sj (nxN l j) := by unfold oneF; rw [if_pos hm]
                have HE := Lib.hid e
                clear hm e
                go_wp2_with fail
                refine (rnext_any _ _ l j _ (HS.out.chg HCj.out fun k hk e => e) hl HR.out (by omega)).mono ?_
                rintro e w2 ⟨v2, rfl, hI, C2⟩
                rw [nextF_nx] at hI
                obtain ⟨p2, c2, rfl, hP2⟩ := hI.place
                obtain ⟨ns, hns⟩ : ∃ ns, nxN l j = ns := ⟨_, rfl⟩
                have hnb : ∀ n ∈ ns, n ≤ l.length := by rw [← hns]; exact nxN_le hltj
                have hn2 : ns.length ≤ 2 := by rw [← hns, nxN_len]; exact nextF_len _ _
                have HHI := Lib.hid hP2
                rw [hns] at HHI HE ⊢
                have HNB := Lib.hid hnb
                have HB2 := Lib.hid (C2.blk0 HBj.out)
                have HC2 := Lib.hid (HCj.out.step C2)
                clear hI hP2 hnb hns C2 y0
                go_wp2_with fail
                go_loopg [43] ns.length (fun gk ix wr => ∃ i : Nat, i + gk = ns.length ∧ ix = .int .i64 i ∧ Blk wr w.heap.size (bools (markL sj (ns.take i))) 4 ∧ Chg NoB w wr ∧ Chg (· = w.heap.size) w2 wr)
                case atStart => exact ⟨0, by omega, rfl, HB2.out, HC2.out, Chg.refl _ _⟩
                case round =>
                  obtain ⟨i, hi, rfl, hB, hC, hC2⟩ := hrel
                  have HI := Lib.hid hi
                  have HC3 := Lib.hid hC
                  have HC4 := Lib.hid hC2
                  have hil : i ≤ ns.length := by omega
                  clear hi hC hC2
                  by_cases hlti : i < ns.length
                  · obtain ⟨n, hn⟩ : ∃ n, ns[i]? = some n := ⟨ns[i], by simp [hlti]⟩
                    obtain ⟨hcap, g1, o1, rfl, hgB, hg1, x0⟩ := HHI.out i n hn
                    have hnl := HNB.out n (List.mem_of_getElem? hn)
                    have x0 := HC4.out.cell x0 (fun e => by have e : g1 = w.heap.size := e; omega)
                    have hfz := hB.frozen n
                    have hbl2 := hB.lt
                    have y0 := hB.cell' (i := n) (bools_at (by rw [markL_len]; have := HLJ.out; omega))
                    have BS := hB.set n (.bool true)
                    rw [bools_set, ← markL_snoc, ← (by rw [List.take_add_one, hn]; rfl : ns.take (i + 1) = ns.take i ++ [n])] at BS
                    have HBS := Lib.hid BS
                    have i0' : (0 : Int) ≤ i := by omega
                    have i1' : (i : Int) < ns.length := by omega
                    have n0 : (0 : Int) ≤ n := by omega
                    have HN := Lib.hid hn
                    clear hn hB BS
                    go_wp2_with fail
                    go_roundg (ns.length - (i + 1))
                    case measure => have := HI.out; omega
                    case rel => exact ⟨i + 1, by have := HI.out; omega, by go_num, HBS.out, HC3.out.setCell (a := ⟨w.heap.size, n, none⟩) (.inr (Nat.le_refl _)) _, HC4.out.setCell (a := ⟨w.heap.size, n, none⟩) (.inl rfl) _⟩
                  · obtain rfl : i = ns.length := by omega
                    rw [List.take_length] at hB
                    have HB5 := Lib.hid hB
                    clear hB
                    go_wp2_with fail
                    go_roundg (l.length - (j + 1))
                    case measure => have := HJ.out; omega
                    case rel => exact ⟨j + 1, by have := HJ.out; omega, by go_num, by rw [HNX.out, HE.out]; exact HB5.out, HC3.out⟩
            · obtain rfl : j = l.length := by omega
              go_wp2_with fail
              go_roundg (l.length - (k + 1))
              case measure => have := HK.out; omega
              case rel =>
                refine ⟨k + 1, by have := HK.out; omega, by go_num, ?_, HCj.out⟩
                have e : roundsF (nxN l) l.length (k + 1) s1 = sj := by
                  show roundF (nxN l) l.length (roundsF (nxN l) l.length k s1) = _
                  rw [HSK.out]
                  exact HSJ.out
                rw [e]
                exact HBj.out
        · obtain rfl : k = l.length := by omega
          have q1 : decide ((l.length : Int) + 1 < l.length) = false := by simp; omega
          go_wp2_with fail
          go_ret
          refine ⟨_, rfl, BAtN.of HBk.out (Nat.le_refl _) ?_ (by rw [HLK.out]; omega) (by omega), HCk.out⟩
          unfold fromF
          rw [HS1.out, HSK.out]
end Go.Proofs.Ytdkplhdinklflaa
