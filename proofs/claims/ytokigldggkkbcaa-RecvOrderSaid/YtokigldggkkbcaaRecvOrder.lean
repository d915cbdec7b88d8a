/- RecvOrder returns true, whatever it is given. -/
import Derived.Test.YtokigldggkkbcaaRecvPlain
set_option linter.unusedVariables false
namespace Go.Proofs.Ytokigldggkkbcaa
open Go.RowKit Go.RR

theorem nb_cells (a : Int) (h0 : 0 ≤ a) (h1 : a ≤ 255) : byteCells (nb a) = [.int .u8 a] ∧ (nb a).size = 1 := by
  obtain ⟨n, rfl⟩ := Int.eq_ofNat_of_zero_le h0
  have : (UInt8.ofNat n).toNat = n := by rw [UInt8.toNat_ofNat']; exact Nat.mod_eq_of_lt (by omega)
  refine ⟨?_, rfl⟩
  simp only [nb, sb, byteCells, Int.toNat_natCast, List.map_cons, List.map_nil, this]

/-- Behind a Take: what is told, and the receiver. -/
def Told (w0 w : World) (b : Nat) (room next : Int) (q : Value) (j : Nat) : Prop :=
  ∃ (e : Early) (vs : List Value) (S1 S2 : Nat → Prop), RecvIn w0 w b room (next + j) e ∧ VE (next + j + 1) (next + j + room) e ∧ next + j ≤ 31 ∧ Sl w S1 1 q j vs ∧ Bodies w S2 vs ((List.range j).map fun i : Nat => nb (next + (i : Int)))

set_option maxHeartbeats 4000000 in
set_option maxRecDepth 100000 in
theorem recvOrder_any (R : Int) (h0 : 0 ≤ R) (h255 : R ≤ 255) (S0 : Nat → Prop) (sv : Value) (zs : List Int) (w : World) (hs : Sl w S0 1 sv zs.length (zs.map (Value.int .u8))) (hz : ∀ z ∈ zs, 0 ≤ z ∧ z ≤ 255) (hlen : zs.length ≤ 9223372036854775807) :
    Calls Try.prog 3 #[.int .u8 R, sv] w (RetW (.bool true) fun w' => Chg NoB w w') := by
  obtain ⟨p, cap, rfl, hcap, hcells⟩ := hs.shape
  clear hs
  go_enter Try.func3, Try.ntmps3
  go_wp2_with fail
  refine (recv_first _).mono ?_
  rintro e w1 ⟨rfl, C1⟩
  have hm0 : 0 ≤ R % 65 := by omega
  have hm1 : R % 65 ≤ 64 := by omega
  go_wp2_with fail
  refine (recvNew (R % 65) _ hm0 hm1).mono ?_
  rintro e w2 ⟨_, rfl, b, rfl, R2, C2⟩
  have I2 : RecvIn w w2 b (R % 65) 1 [] := ⟨R2.bound fun k _ h => Nat.le_trans C1.size h, C1.then0 C2⟩
  clear R2 C1 C2
  go_wp2_with fail
  go_loopg [7, 26] zs.length (fun m t i wr => ∃ k : Nat, k + m = zs.length ∧ i = .int .i64 k ∧ ∃ (n : Nat) (e : Early), t = .int .i64 n ∧ n ≤ 30 ∧ RecvIn w wr b (R % 65) (n + 1) e ∧ VE (n + 1 + 1) (n + 1 + R % 65) e)
  case atStart => exact ⟨0, by omega, rfl, 0, [], rfl, by omega, by simpa using I2, trivial⟩
  case round =>
    obtain ⟨k, hk, rfl, n, e, rfl, hn, I, V⟩ := hrel
    clear I2
    have HK := Lib.hid hk
    have hkl : k ≤ zs.length := by omega
    have HV := Lib.hid V
    clear hk V
    by_cases hlt : k < zs.length
    · obtain ⟨g0, o0, rfl, -, -, q0⟩ := hcells (by omega)
      obtain ⟨z, hzk⟩ : ∃ z, zs[k]? = some z := ⟨zs[k], by simp [hlt]⟩
      have hz2 := hz z (List.mem_of_getElem? hzk)
      have hzc := I.2.cell (q0 k (.int .u8 z) (by rw [List.getElem?_map, hzk]; rfl)) id
      have hk0 : (0 : Int) ≤ k := by omega
      have hk1 : (k : Int) < zs.length := by omega
      clear hcells q0 hzk hz
      obtain ⟨hz0, hz1⟩ := hz2
      by_cases h300 : k < 300
      · have h300' : decide ((300 : Int) ≤ k) = false := by simp; omega
        have hq1 : 1 ≤ z % 30 + 1 := by omega
        have hq2 : z % 30 + 1 ≤ 30 := by omega
        go_upto_region 10 with fail
        generalize z % 30 + 1 = q at *
        go_cut [11] (fun v wx => ∃ j, Told w wx b (R % 65) (n + 1) v j)
        case first =>
          obtain ⟨c1, c2⟩ := nb_cells q (by omega) (by omega)
          have A0 := (Chg.refl NoB wr).alloc (.cells #[.int .u8 q] 5)
          have F0 : Sl (wr.alloc (.cells #[.int .u8 q] 5)) (fun k => k = wr.heap.size) 1 (.slice (some ⟨wr.heap.size, 0, none⟩) 1 1) (nb q).size (byteCells (nb q)) := by
            rw [c1, c2]; exact Sl.fresh wr [.int .u8 q] 5 1 rfl
          have J := I.chg0 A0
          have hcnt : e.length ≤ 64 := VE.count 64 _ _ e (by omega) HV.out
          clear hzc
          by_cases hout : q < n + 1 ∨ R % 65 < q - (n + 1)
          · go_wp2_with fail
            refine (takeOut _ _ b (R % 65) (n + 1) q _ _ J.1 hm0 hm1 (by omega) (by omega) (by omega) (by omega) hout).mono ?_
            rintro e' w3 ⟨rfl, C3⟩
            have I3 := J.chg0 C3
            clear hout
            go_wp2_with fail
            go_meet
            exact ⟨0, e, [], NoB, NoB, by simpa using I3, by simpa using HV.out, by omega, Sl.nil _ _ _, trivial⟩
          · have hin : (n : Int) + 1 ≤ q := by omega
            have hin2 : q - ((n : Int) + 1) ≤ R % 65 := by omega
            clear hout
            cases hf : efind e q with
            | some s =>
              have HFI := Lib.hid hf
              clear hf
              go_wp2_with fail
              refine (takeHas _ _ b (R % 65) (n + 1) q _ _ J.1 hm0 hm1 (by omega) (by omega) (by omega) (by omega) hin hin2 s HFI.out).mono ?_
              rintro e' w3 ⟨rfl, C3⟩
              have I3 := J.chg0 C3
              go_wp2_with fail
              go_meet
              exact ⟨0, e, [], NoB, NoB, by simpa using I3, by simpa using HV.out, by omega, Sl.nil _ _ _, trivial⟩
            | none =>
              have V2 := (HV.out.wide (lo' := n + 1) (hi' := n + 1 + R % 65) (by omega) (Int.le_refl _)).put hin (by omega) hq1 hq2 hf
              obtain ⟨j, f1, f2, f3⟩ := follow_VE (e.length + 1) (n + 1) (n + 1 + R % 65) (e ++ [(q, nb q)]) (by simp) V2
              generalize hfo : follow (e.length + 1) ((n : Int) + 1) (e ++ [(q, nb q)]) = r at *
              have HF1 := Lib.hid f1
              have HF2 := Lib.hid f2
              have HFI := Lib.hid hf
              have HFO := Lib.hid hfo
              clear hf hfo f1 f2 V2
              go_wp2_with fail
              refine (takeIn _ _ _ b (R % 65) (n + 1) q e _ (nb q) J.1 F0 (by omega) hm0 hm1 (by omega) (by omega) (by omega) (by omega) hin hin2 HFI.out _ _ _ (HFO.out.trans HF1.out)).mono ?_
              rintro e' w3 ⟨_, rfl, v, vs, rfl, R3, C3, O3, B3⟩
              have I3 := J.step R3 C3
              have h31 := f3 (by omega)
              clear R3 C3 J F0 A0 f3
              go_wp2_with fail
              go_meet
              have s3 := O3.sl
              rw [List.length_map, List.length_range] at s3
              exact ⟨j, _, vs, _, _, I3, HF2.out.wide (Int.le_refl _) (by omega), h31, s3, B3⟩
        case rest =>
          obtain ⟨j, e2, vs, S1, S2, I2, V2, h31, hsl, hbo⟩ := hcut
          clear I HV hzc
          obtain ⟨hvl, p2, c2, rfl, -, hc2⟩ := hsl
          rename World => wx
          go_wp2_with fail
          go_loopg [7, 48] j (fun m t i wq => ∃ k2 : Nat, k2 + m = j ∧ i = .int .i64 k2 ∧ t = .int .i64 (n + k2 : Nat) ∧ wx = wq)
          case atStart => exact ⟨0, by omega, rfl, rfl, rfl⟩
          case round =>
            obtain ⟨k2, hkm, rfl, rfl, rfl⟩ := hrel
            have HKM := Lib.hid hkm
            have hk2 : k2 ≤ j := by omega
            clear hkm
            by_cases hl : k2 < j
            · obtain ⟨g2, o2, rfl, -, -, q2⟩ := hc2 (by omega)
              obtain ⟨u, hu, hsl⟩ := hbo.get k2 (nb (n + 1 + k2)) (by simp [hl])
              have hcu := q2 k2 u hu
              rw [show (n : Int) + 1 + k2 = n + k2 + 1 by omega] at hsl
              obtain ⟨cc1, cc2⟩ := nb_cells (n + k2 + 1) (by omega) (by omega)
              rw [cc1, cc2] at hsl
              obtain ⟨-, p3, c3, rfl, hn3, hc3⟩ := hsl
              obtain ⟨g3, o3, rfl, -, -, q3⟩ := hc3 (by omega)
              have hb : wx.cell? ⟨g3, o3, none⟩ = some (.int .u8 (n + k2 + 1)) := q3 0 _ rfl
              have l0 : (0 : Int) ≤ k2 := by omega
              have l1 : (k2 : Int) < j := by omega
              have hnk : (n : Int) + k2 ≤ 40 := by omega
              clear hc2 hu q2 hc3 q3 cc1 cc2
              go_wp2_with fail
              go_roundg (j - (k2 + 1))
              case measure => have := HKM.out; omega
              case rel => exact ⟨k2 + 1, by have := HKM.out; omega, by go_num, by go_num, rfl⟩
            · obtain rfl : k2 = j := by have := HKM.out; omega
              clear hc2
              go_wp2_with fail
              refine (ackAt I2.1).mono ?_
              rintro e w7 ⟨rfl, rfl⟩
              have hj : (n : Int) + k2 ≤ 40 := by omega
              have hcnt : e2.length ≤ (R % 65).toNat := VE.count _ _ _ e2 (by omega) V2
              have hc0 : decide (R % 65 < (e2.length : Int)) = false := by simp; omega
              have hn1 : ((n : Int) + 1 + k2 != n + k2 + 1) = false := by simp; omega
              have VV := Lib.hid V2
              clear V2
              go_wp2_with fail
              refine (earlyAt I2.1).mono ?_
              rintro e w8 ⟨rfl, rfl⟩
              go_wp2_with fail
              go_roundg (zs.length - (k + 1))
              case measure => have := HK.out; omega
              case rel =>
                refine ⟨k + 1, by have := HK.out; omega, by go_num, n + k2, e2, by go_num, by omega, ?_, ?_⟩
                · rw [show ((n + k2 : Nat) : Int) + 1 = n + 1 + k2 by omega]; exact I2
                · rw [show ((n + k2 : Nat) : Int) + 1 = n + 1 + k2 by omega]; exact VV.out
      · have h300' : decide ((300 : Int) ≤ k) = true := by simp; omega
        clear h300
        go_wp2
        go_ret
        exact ⟨rfl, I.2⟩
    · obtain rfl : k = zs.length := by omega
      go_wp2
      go_ret
      exact ⟨rfl, I.2⟩
end Go.Proofs.Ytokigldggkkbcaa
