/- A text's number, by the reference. No condition. -/
import Derived.Test.YtfidiiifcmmffaaDoorTrace4
set_option linter.unusedVariables false
set_option linter.unusedSimpArgs false
namespace Go.Proofs.YtfidiiifcmmffaaDoor
open Go.RowKit Go.RR

def numRV (s : Bs) : Value := .tuple #[.int .i64 (numR s).1, .bool (numR s).2]
theorem ba_list (b : ByteArray) : b = ⟨b.data.toList.toArray⟩ := by cases b; rfl
theorem ba_len (b : ByteArray) : b.data.toList.length = b.size := by cases b; rfl
theorem ba_at (b : ByteArray) (k : Nat) (h : k < b.size) : b.data.toList[k]? = some b[k] := by
  cases b with
  | mk a =>
    cases a with
    | mk l => exact List.getElem?_eq_getElem h
theorem ba_drop (b : ByteArray) (k : Nat) (h : k < b.size) : b.data.toList.drop k = b[k] :: b.data.toList.drop (k + 1) := by
  have := ba_at b k h
  obtain ⟨h1, h2⟩ := List.getElem?_eq_some_iff.1 this
  rw [← h2, List.drop_eq_getElem_cons h1]
theorem ba_end (b : ByteArray) : b.data.toList.drop b.size = [] := by rw [← ba_len, List.drop_length]

theorem numR_bad {s : Bs} {m : Bool} {k : Nat} (hm : minusB s = m) (hk : k = if m = true then 1 else 0) (h : negR 0 (s.drop k) = none) : numR s = (0, false) := by
  subst hk
  unfold numR
  cases m
  · rw [hm]; simp only [Bool.false_eq_true, if_false, List.drop_zero] at h ⊢; rw [h]
  · rw [hm]; simp only [if_true] at h ⊢; rw [h]
theorem numR_min {s : Bs} {a : Int} (hm : minusB s = true) (h : negR 0 (s.drop 1) = some a) : numR s = (a, decide (s ≠ []) && decide (Go.Lib.itoa a = s)) := by
  unfold numR
  rw [hm, if_pos rfl, h]
  simp only [if_true]
theorem numR_pos {s : Bs} {a : Int} (hm : minusB s = false) (h : negR 0 (s.drop 0) = some a) : numR s = if a = -9223372036854775808 then (0, false) else (-a, decide (s ≠ []) && decide (Go.Lib.itoa (-a) = s)) := by
  unfold numR
  rw [hm]
  simp only [Bool.false_eq_true, if_false, List.drop_zero] at h ⊢
  rw [h]
theorem negR_cons (a : Int) (c : UInt8) (r : Bs) : negR a (c :: r) = if (c.toNat : Int) - 48 < 0 ∨ 9 < (c.toNat : Int) - 48 ∨ a < Int.tdiv (-9223372036854775808 + ((c.toNat : Int) - 48)) 10 ∨ a < -922337203685477580 then none else negR (10 * a - ((c.toNat : Int) - 48)) r := rfl
theorem minus_at (b : ByteArray) (h : 0 < b.size) : ((b[0].toNat : Int) == 45) = minusB b.data.toList := by
  have := ba_at b 0 h
  unfold minusB
  rw [← List.head?_eq_getElem?] at this
  rw [this]
  by_cases e : b[0] = 45
  · rw [e]; rfl
  · have : b[0].toNat ≠ 45 := fun h => e (UInt8.toNat_inj.1 (by rw [h]; rfl))
    have h1 : ((b[0].toNat : Int) == 45) = false := by rw [beq_eq_false_iff_ne]; omega
    rw [h1]
    simp [e]
theorem toList_data (b : ByteArray) : b.toList = b.data.toList := ByteArray.toList_eq b
theorem itoa_bs (n : Int) (b : ByteArray) : (Go.Lib.itoa n == b.toList) = decide (Go.Lib.itoa n = b.data.toList) := by
  rw [toList_data]
  by_cases h : Go.Lib.itoa n = b.data.toList
  · rw [h]; simp
  · rw [decide_eq_false h, beq_eq_false_iff_ne]; exact h

set_option maxHeartbeats 4000000 in
set_option maxRecDepth 100000 in
theorem rnumber_any (b : ByteArray) (w : World) (hl : b.size ≤ 100000) : Calls Tryd.prog 20 #[.string b] w (RetW (numRV b.data.toList) fun w' => w' = w) := by
  by_cases h0 : b.size = 0
  · have e : b = ⟨#[]⟩ := by
      cases b with
      | mk a => exact congrArg ByteArray.mk (Array.eq_empty_of_size_eq_zero h0)
    subst e
    have H := Lib.hid fun n => num_any n w
    have q0 : (ByteArray.toList ⟨#[]⟩ == []) = true := by decide +kernel
    have q1 : (ByteArray.toList ⟨#[]⟩ != []) = false := by decide +kernel
    go_enter Tryd.func20, Tryd.ntmps20
    go_wp2_with fail
    go_loopg [4, 5, 7] 0 (fun gk ax ix dx wr => ax = .int .i64 0 ∧ ix = .int .i64 0 ∧ wr = w)
    case atStart => exact ⟨rfl, rfl, rfl⟩
    case round =>
      obtain ⟨rfl, rfl, rfl⟩ := hrel
      go_wp2_with fail
      go_ret2
      exact ⟨rfl, rfl⟩
  · have hb0 : 0 < b.size := by omega
    have q0 : (b.toList == []) = false := by
      rw [beq_eq_false_iff_ne]
      intro e
      have := ba_len b
      rw [ByteArray.toList_eq] at e
      rw [e] at this
      simp at this; omega
    have hne : b.data.toList ≠ [] := by
      intro e
      have := ba_len b
      rw [e] at this
      simp at this; omega
    have HNE := Lib.hid hne
    have q2 := minus_at b hb0
    clear hne
    cases q1 : minusB b.data.toList
    · rw [q1] at q2
      have HE := Lib.hid q1
      clear h0 q1
      go_enter Tryd.func20, Tryd.ntmps20
      go_wp2_with fail
      go_loopg [4, 5, 7] (b.size - 0) (fun gk ax ix dx wr => ∃ (k : Nat) (a : Int), k + gk = b.size ∧ ax = .int .i64 a ∧ ix = .int .i64 k ∧ wr = w ∧ a ≤ 0 ∧ -9223372036854775808 ≤ a ∧ negR 0 (b.data.toList.drop 0) = negR a (b.data.toList.drop k))
      case atStart => exact ⟨0, 0, by omega, rfl, rfl, rfl, by omega, by omega, rfl⟩
      case round =>
        obtain ⟨k, a, hk, rfl, rfl, rfl, ha0, ha1, hn⟩ := hrel
        by_cases hlt : k < b.size
        · rw [ba_drop b k hlt, negR_cons] at hn
          have hc : (b[k].toNat : Int) ≤ 255 ∧ (0 : Int) ≤ b[k].toNat := by have := UInt8.toNat_lt b[k]; omega
          have k1 : (k : Int) < b.size := by omega
          have k0 : (0 : Int) ≤ k := by omega
          have HK := Lib.hid hk
          cases t0 : decide ((b[k].toNat : Int) - 48 < 0)
          · cases t1 : decide (9 < (b[k].toNat : Int) - 48)
            · have ht0 := of_decide_eq_false t0
              have ht1 := of_decide_eq_false t1
              have hT := tdiv_low (d := (b[k].toNat : Int) - 48) (by omega) (by omega)
              have v0 : wrap64 (-9223372036854775808 + ((b[k].toNat : Int) - 48)) = -9223372036854775808 + ((b[k].toNat : Int) - 48) := Go.IntWalk.wrap64_in _ (by omega)
              have v1 : wrap64 (Int.tdiv (-9223372036854775808 + ((b[k].toNat : Int) - 48)) 10) = Int.tdiv (-9223372036854775808 + ((b[k].toNat : Int) - 48)) 10 := Go.IntWalk.wrap64_in _ (by rw [hT]; omega)
              cases t2 : decide (a < Int.tdiv (-9223372036854775808 + ((b[k].toNat : Int) - 48)) 10)
              · cases t3 : decide (a < -922337203685477580)
                · have ht2 := of_decide_eq_false t2
                  have ht3 := of_decide_eq_false t3
                  rw [if_neg (by omega)] at hn
                  have hr : -9223372036854775808 ≤ 10 * a - ((b[k].toNat : Int) - 48) ∧ 10 * a - ((b[k].toNat : Int) - 48) ≤ 0 := by
                    rw [hT] at ht2
                    omega
                  have v2 : wrap64 (10 * a) = 10 * a := Go.IntWalk.wrap64_in _ (by omega)
                  have v3 : wrap64 (10 * a - ((b[k].toNat : Int) - 48)) = 10 * a - ((b[k].toNat : Int) - 48) := Go.IntWalk.wrap64_in _ (by omega)
                  have HN := Lib.hid hn
                  have HR := Lib.hid hr
                  clear hn ht0 ht1 ht2 ht3 hk hT
                  go_wp2_with fail
                  go_roundg (b.size - (k + 1))
                  case measure => have := HK.out; omega
                  case rel => exact ⟨k + 1, 10 * a - ((b[k].toNat : Int) - 48), by have := HK.out; omega, by go_num, by go_num, rfl, HR.out.2, HR.out.1, HN.out⟩
                · rw [if_pos (.inr (.inr (.inr (of_decide_eq_true t3))))] at hn
                  have HN := Lib.hid (numR_bad (k := 0) HE.out rfl hn)
                  clear hn ht0 ht1 hk hT
                  go_wp2_with fail
                  go_ret2
                  exact ⟨by unfold numRV; rw [HN.out]; rfl, rfl⟩
              · rw [if_pos (.inr (.inr (.inl (of_decide_eq_true t2))))] at hn
                have HN := Lib.hid (numR_bad (k := 0) HE.out rfl hn)
                clear hn ht0 ht1 hk hT
                go_wp2_with fail
                go_ret2
                exact ⟨by unfold numRV; rw [HN.out]; rfl, rfl⟩
            · rw [if_pos (.inr (.inl (of_decide_eq_true t1)))] at hn
              have HN := Lib.hid (numR_bad (k := 0) HE.out rfl hn)
              clear hn hk
              go_wp2_with fail
              go_ret2
              exact ⟨by unfold numRV; rw [HN.out]; rfl, rfl⟩
          · rw [if_pos (.inl (of_decide_eq_true t0))] at hn
            have HN := Lib.hid (numR_bad (k := 0) HE.out rfl hn)
            clear hn hk
            go_wp2_with fail
            go_ret2
            exact ⟨by unfold numRV; rw [HN.out]; rfl, rfl⟩
        · obtain rfl : k = b.size := by omega
          rw [ba_end] at hn
          replace hn : negR 0 (b.data.toList.drop 0) = some a := hn
          have k1 : decide ((b.size : Int) < b.size) = false := by simp
          by_cases hm : a = -9223372036854775808
          · have m0 : (a == -9223372036854775808) = true := by rw [beq_iff_eq]; exact hm
            have HN := Lib.hid (numR_pos HE.out hn)
            rw [if_pos hm] at HN
            clear hn hm hk
            go_wp2_with fail
            go_ret2
            exact ⟨by unfold numRV; rw [HN.out]; rfl, rfl⟩
          · have m0 : (a == -9223372036854775808) = false := by rw [beq_eq_false_iff_ne]; exact hm
            have HN := Lib.hid (numR_pos HE.out hn)
            rw [if_neg hm] at HN
            have v0 : wrap64 (-a) = -a := Go.IntWalk.wrap64_in _ (by omega)
            have H := Lib.hid (num_any (-a) wr ⟨by omega, by omega⟩)
            have hs := itoa_bs (-a) b
            clear hn hm hk ha0 ha1
            go_wp2_with fail
            refine H.out.mono ?_
            rintro e w1 ⟨rfl, rfl⟩
            go_wp2_with fail
            go_ret2
            refine ⟨?_, rfl⟩
            unfold numRV
            rw [HN.out]
            simp [HNE.out]
    · rw [q1] at q2
      have HE := Lib.hid q1
      clear h0 q1
      go_enter Tryd.func20, Tryd.ntmps20
      go_wp2_with fail
      go_loopg [4, 5, 7] (b.size - 1) (fun gk ax ix dx wr => ∃ (k : Nat) (a : Int), k + gk = b.size ∧ ax = .int .i64 a ∧ ix = .int .i64 k ∧ wr = w ∧ a ≤ 0 ∧ -9223372036854775808 ≤ a ∧ negR 0 (b.data.toList.drop 1) = negR a (b.data.toList.drop k))
      case atStart => exact ⟨1, 0, by omega, rfl, rfl, rfl, by omega, by omega, rfl⟩
      case round =>
        obtain ⟨k, a, hk, rfl, rfl, rfl, ha0, ha1, hn⟩ := hrel
        by_cases hlt : k < b.size
        · rw [ba_drop b k hlt, negR_cons] at hn
          have hc : (b[k].toNat : Int) ≤ 255 ∧ (0 : Int) ≤ b[k].toNat := by have := UInt8.toNat_lt b[k]; omega
          have k1 : (k : Int) < b.size := by omega
          have k0 : (0 : Int) ≤ k := by omega
          have HK := Lib.hid hk
          cases t0 : decide ((b[k].toNat : Int) - 48 < 0)
          · cases t1 : decide (9 < (b[k].toNat : Int) - 48)
            · have ht0 := of_decide_eq_false t0
              have ht1 := of_decide_eq_false t1
              have hT := tdiv_low (d := (b[k].toNat : Int) - 48) (by omega) (by omega)
              have v0 : wrap64 (-9223372036854775808 + ((b[k].toNat : Int) - 48)) = -9223372036854775808 + ((b[k].toNat : Int) - 48) := Go.IntWalk.wrap64_in _ (by omega)
              have v1 : wrap64 (Int.tdiv (-9223372036854775808 + ((b[k].toNat : Int) - 48)) 10) = Int.tdiv (-9223372036854775808 + ((b[k].toNat : Int) - 48)) 10 := Go.IntWalk.wrap64_in _ (by rw [hT]; omega)
              cases t2 : decide (a < Int.tdiv (-9223372036854775808 + ((b[k].toNat : Int) - 48)) 10)
              · cases t3 : decide (a < -922337203685477580)
                · have ht2 := of_decide_eq_false t2
                  have ht3 := of_decide_eq_false t3
                  rw [if_neg (by omega)] at hn
                  have hr : -9223372036854775808 ≤ 10 * a - ((b[k].toNat : Int) - 48) ∧ 10 * a - ((b[k].toNat : Int) - 48) ≤ 0 := by
                    rw [hT] at ht2
                    omega
                  have v2 : wrap64 (10 * a) = 10 * a := Go.IntWalk.wrap64_in _ (by omega)
                  have v3 : wrap64 (10 * a - ((b[k].toNat : Int) - 48)) = 10 * a - ((b[k].toNat : Int) - 48) := Go.IntWalk.wrap64_in _ (by omega)
                  have HN := Lib.hid hn
                  have HR := Lib.hid hr
                  clear hn ht0 ht1 ht2 ht3 hk hT
                  go_wp2_with fail
                  go_roundg (b.size - (k + 1))
                  case measure => have := HK.out; omega
                  case rel => exact ⟨k + 1, 10 * a - ((b[k].toNat : Int) - 48), by have := HK.out; omega, by go_num, by go_num, rfl, HR.out.2, HR.out.1, HN.out⟩
                · rw [if_pos (.inr (.inr (.inr (of_decide_eq_true t3))))] at hn
                  have HN := Lib.hid (numR_bad (k := 1) HE.out rfl hn)
                  clear hn ht0 ht1 hk hT
                  go_wp2_with fail
                  go_ret2
                  exact ⟨by unfold numRV; rw [HN.out]; rfl, rfl⟩
              · rw [if_pos (.inr (.inr (.inl (of_decide_eq_true t2))))] at hn
                have HN := Lib.hid (numR_bad (k := 1) HE.out rfl hn)
                clear hn ht0 ht1 hk hT
                go_wp2_with fail
                go_ret2
                exact ⟨by unfold numRV; rw [HN.out]; rfl, rfl⟩
            · rw [if_pos (.inr (.inl (of_decide_eq_true t1)))] at hn
              have HN := Lib.hid (numR_bad (k := 1) HE.out rfl hn)
              clear hn hk
              go_wp2_with fail
              go_ret2
              exact ⟨by unfold numRV; rw [HN.out]; rfl, rfl⟩
          · rw [if_pos (.inl (of_decide_eq_true t0))] at hn
            have HN := Lib.hid (numR_bad (k := 1) HE.out rfl hn)
            clear hn hk
            go_wp2_with fail
            go_ret2
            exact ⟨by unfold numRV; rw [HN.out]; rfl, rfl⟩
        · obtain rfl : k = b.size := by omega
          rw [ba_end] at hn
          replace hn : negR 0 (b.data.toList.drop 1) = some a := hn
          have k1 : decide ((b.size : Int) < b.size) = false := by simp
          have HN := Lib.hid (numR_min HE.out hn)
          have H := Lib.hid (num_any a wr ⟨by omega, by omega⟩)
          have hs := itoa_bs a b
          clear hn hk ha0 ha1
          go_wp2_with fail
          refine H.out.mono ?_
          rintro e w1 ⟨rfl, rfl⟩
          go_wp2_with fail
          go_ret2
          refine ⟨?_, rfl⟩
          unfold numRV
          rw [HN.out]
          simp [HNE.out]
end Go.Proofs.YtfidiiifcmmffaaDoor
