/- Names of instructions, and registers as texts, by the program. No condition. -/
import Derived.Test.YtfidiiifcmmffaaGreatDoorAsm4
import Derived.Test.YtfidiiifcmmffaaGreatDoorIsa3
set_option linter.unusedVariables false
set_option linter.unusedSimpArgs false
namespace Go.Proofs.YtfidiiifcmmffaaGreatDoor
open Go.RowKit Go.RR

theorem nameI_z {o : Int} (h : kd o = .z) : nameI o = [] := by
  have e : rowAt o = (⟨#[]⟩, .z, 0) := by
    unfold rowAt
    by_cases h0 : 0 ≤ o
    · rw [if_pos h0]
      by_cases h1 : o < 35
      · obtain ⟨k, rfl⟩ : ∃ k : Nat, o = k := ⟨o.toNat, by omega⟩
        exact absurd h (kd_in k (by omega))
      · rw [List.getD_eq_getElem?_getD, List.getElem?_eq_none (by have : rowsL.length = 35 := rfl; omega)]
        rfl
    · rw [if_neg h0]
  unfold nameI
  rw [e]
set_option maxHeartbeats 4000000 in
set_option maxRecDepth 100000 in
theorem name_any' (o : Int) (w : World) (L : Lb w) : Calls Tryz.prog 12 #[.int .i64 o] w (RetW (.string ⟨(nameI o).toArray⟩) fun w' => Chg NoB w w') := by
  have HK := Lib.hid (kind_any o w)
  by_cases hz : kd o = .z
  · have HN := Lib.hid (nameI_z hz)
    rw [hz] at HK
    have q : ((Kd.z).s.toList == []) = true := by decide +kernel
    clear hz L
    go_enter Tryz.func12, Tryz.ntmps12
    go_wp2_with fail
    refine HK.out.mono ?_
    rintro e w1 ⟨rfl, rfl⟩
    go_wp2_with fail
    go_ret
    exact ⟨by rw [HN.out]; rfl, Chg.refl _ _⟩
  · obtain ⟨k, hk, rfl⟩ := kd_op hz
    have q := kd_z2 hz
    have q2 : ((kd (k : Int)).s.toList == []) = false := by
      cases h : (kd (k : Int)).s.toList with
      | nil => rw [h] at q; cases q
      | cons a b => rfl
    have HF := Lib.hid (fields_any w L)
    have k0 : (0 : Int) ≤ k := by omega
    have k1 : (k : Int) < 35 := by omega
    clear hz L
    go_enter Tryz.func12, Tryz.ntmps12
    go_wp2_with fail
    refine HK.out.mono ?_
    rintro e w1 ⟨rfl, rfl⟩
    go_wp2_with fail
    refine HF.out.mono ?_
    rintro e w2 ⟨rfl, C2, hcell⟩
    have x0 := hcell k hk
    have HC := Lib.hid C2
    clear hcell C2
    go_wp2_with fail
    go_ret
    exact ⟨rfl, HC.out⟩
def opV (s : Bs) : Value := match opOf s with | none => .tuple #[.int .i64 0, .bool false] | some k => .tuple #[.int .i64 k, .bool true]
theorem opV_some {s : Bs} {k : Nat} (hk : k < 35) (h : nameI k = s) : opV s = .tuple #[.int .i64 k, .bool true] := by
  unfold opV
  rw [← h, (names_plain k hk).2.2]
theorem opV_none {s : Bs} (h : ∀ k : Nat, k < 35 → nameI k ≠ s) : opV s = .tuple #[.int .i64 0, .bool false] := by
  unfold opV
  cases e : opOf s with
  | none => rfl
  | some k => obtain ⟨h1, h2⟩ := opOf_some e; exact absurd h2 (h k h1)
set_option maxHeartbeats 4000000 in
set_option maxRecDepth 100000 in
theorem op_any (s : Bs) (w : World) (L : Lb w) : Calls Tryz.prog 29 #[.string ⟨s.toArray⟩] w (RetW (opV s) fun w' => Chg NoB w w') := by
  have HF := Lib.hid (fields_any w L)
  clear L
  go_enter Tryz.func29, Tryz.ntmps29
  go_wp2_with fail
  refine HF.out.mono ?_
  rintro e w1 ⟨rfl, C1, hcell⟩
  have HC := Lib.hid C1
  have HX := Lib.hid hcell
  clear hcell C1
  go_wp2_with fail
  go_loopg [8, 4, 5] 35 (fun g ix _ _ wr => ∃ k : Nat, k + g = 35 ∧ ix = .int .i64 k ∧ wr = w1 ∧ ∀ j : Nat, j < k → nameI j ≠ s)
  case atStart => exact ⟨0, rfl, rfl, rfl, fun j h => by omega⟩
  case round =>
    obtain ⟨k, hk, rfl, rfl, hno⟩ := hrel
    have HK := Lib.hid hk
    have HNO := Lib.hid hno
    have hkl : k ≤ 35 := by omega
    clear hk hno
    by_cases hlt : k < 35
    · have x0 := HX.out k hlt
      have k0 : (0 : Int) ≤ k := by omega
      have k1 : (k : Int) < 35 := by omega
      cases q : (nameI k == s)
      · have HQ : Hid (nameI k ≠ s) := Lib.hid (by simpa using q)
        go_wp2_with fail
        go_roundg (35 - (k + 1))
        case measure => have := HK.out; omega
        case rel => exact ⟨k + 1, by have := HK.out; omega, by go_num, rfl, fun j hj => by
          rcases Nat.lt_or_ge j k with h | h
          · exact HNO.out j h
          · obtain rfl : j = k := by omega
            exact HQ.out⟩
      · have HQ := Lib.hid (opV_some hlt (by simpa using q : nameI k = s))
        go_wp2_with fail
        go_ret2
        exact ⟨by rw [HQ.out]; rfl, HC.out⟩
    · obtain rfl : 35 = k := by omega
      have HQ := Lib.hid (opV_none HNO.out)
      go_wp2_with fail
      go_ret2
      exact ⟨by rw [HQ.out]; rfl, HC.out⟩
theorem itoa_len {n : Int} (h : i64 n) : (Go.Lib.itoa n).length ≤ 21 := by
  obtain ⟨h1, h2⟩ := h
  have e : (10 : Nat) ^ (19 + 1) = 100000000000000000000 := by decide
  unfold Go.Lib.itoa
  split
  · rw [List.length_cons]
    have := dec_len 19 n.natAbs (by omega)
    omega
  · have := dec_len 19 n.toNat (by omega)
    omega
set_option maxHeartbeats 4000000 in
set_option maxRecDepth 100000 in
theorem regT_any (n : Int) (w : World) (h : i64 n) (L : Lb w) : Calls Tryz.prog 47 #[.int .i64 n] w (RetW (.string ⟨(regT n).toArray⟩) fun w' => Chg NoB w w') := by
  have H := Lib.hid (itoa_any n w h L)
  have hl := itoa_len h
  have l1 : ¬ 9223372036854775807 < 1 + (Go.Lib.itoa n).length := by omega
  have l2 : ¬ 9223372036854775807 < (Go.Lib.itoa n).length + 1 := by omega
  clear L h hl
  go_enter Tryz.func47, Tryz.ntmps47
  go_wp2_with fail
  with_reducible refine H.out.mono ?_
  rintro e w1 ⟨rfl, C1⟩
  have HC := Lib.hid C1
  clear C1
  go_wp2_with fail
  go_ret
  refine ⟨?_, HC.out⟩
  rw [show regT n = [114] ++ Go.Lib.itoa n from rfl, ← bs_append]
  rfl
end Go.Proofs.YtfidiiifcmmffaaGreatDoor
