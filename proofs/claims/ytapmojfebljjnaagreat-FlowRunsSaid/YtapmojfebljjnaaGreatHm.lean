/- What cores reckon, complex numbers too: what these come to is left open. No condition. -/
import Derived.Test.YtapmojfebljjnaaGreatHc
import Derived.Test.YtapmojfebljjnaaGreatHl
set_option linter.unusedVariables false
set_option linter.unusedSimpArgs false
namespace Go.Proofs.YtapmojfebljjnaaGreat
open Go.RowKit Go.RR
def anyCx : Cx := ⟨fun _ _ => 0, fun _ _ => 0, fun _ _ => 0, fun _ => 0, fun _ => 0⟩
def oneCx (r : Nat) : Cx := ⟨fun _ _ => r, fun _ _ => r, fun _ _ => r, fun _ => r, fun _ => r⟩
set_option maxRecDepth 100000 in
theorem cxx_add (a b : Nat) (ha : a < 18446744073709551616) (hb : b < 18446744073709551616) (w : World) : Calls Tryz.prog 106 #[.int .i64 10, .int .u64 a, .int .u64 b] w (fun e w' => ∃ r : Nat, r < 18446744073709551616 ∧ e = .returned (.tuple #[.int .u64 r, .bool true]) ∧ Chg NoB w w') := by
  have HC := Lib.hid (fun w => (cAdd_ex a b ha hb w))
  clear ha hb
  go_enter Tryz.func106, Tryz.ntmps106
  go_wp2_with fail
  with_reducible refine (HC.out _).mono ?_
  rintro e w1 ⟨r, hr, rfl, c1⟩
  have HR := Lib.hid (And.intro hr c1)
  clear hr c1
  go_wp2_with fail
  go_ret2
  exact ⟨r, HR.out.1, rfl, HR.out.2⟩
set_option maxRecDepth 100000 in
theorem cxx_sub (a b : Nat) (ha : a < 18446744073709551616) (hb : b < 18446744073709551616) (w : World) : Calls Tryz.prog 106 #[.int .i64 11, .int .u64 a, .int .u64 b] w (fun e w' => ∃ r : Nat, r < 18446744073709551616 ∧ e = .returned (.tuple #[.int .u64 r, .bool true]) ∧ Chg NoB w w') := by
  have HC := Lib.hid (fun w => (cSub_ex a b ha hb w))
  clear ha hb
  go_enter Tryz.func106, Tryz.ntmps106
  go_wp2_with fail
  with_reducible refine (HC.out _).mono ?_
  rintro e w1 ⟨r, hr, rfl, c1⟩
  have HR := Lib.hid (And.intro hr c1)
  clear hr c1
  go_wp2_with fail
  go_ret2
  exact ⟨r, HR.out.1, rfl, HR.out.2⟩
set_option maxRecDepth 100000 in
theorem cxx_mul (a b : Nat) (ha : a < 18446744073709551616) (hb : b < 18446744073709551616) (w : World) : Calls Tryz.prog 106 #[.int .i64 12, .int .u64 a, .int .u64 b] w (fun e w' => ∃ r : Nat, r < 18446744073709551616 ∧ e = .returned (.tuple #[.int .u64 r, .bool true]) ∧ Chg NoB w w') := by
  have HC := Lib.hid (fun w => (cMul_ex a b ha hb w))
  clear ha hb
  go_enter Tryz.func106, Tryz.ntmps106
  go_wp2_with fail
  with_reducible refine (HC.out _).mono ?_
  rintro e w1 ⟨r, hr, rfl, c1⟩
  have HR := Lib.hid (And.intro hr c1)
  clear hr c1
  go_wp2_with fail
  go_ret2
  exact ⟨r, HR.out.1, rfl, HR.out.2⟩
set_option maxRecDepth 100000 in
theorem cxx_conj (a b : Nat) (ha : a < 18446744073709551616) (hb : b < 18446744073709551616) (w : World) : Calls Tryz.prog 106 #[.int .i64 13, .int .u64 a, .int .u64 b] w (fun e w' => ∃ r : Nat, r < 18446744073709551616 ∧ e = .returned (.tuple #[.int .u64 r, .bool true]) ∧ Chg NoB w w') := by
  have HC := Lib.hid (fun w => (cConj_ex a ha w))
  clear ha hb
  go_enter Tryz.func106, Tryz.ntmps106
  go_wp2_with fail
  with_reducible refine (HC.out _).mono ?_
  rintro e w1 ⟨r, hr, rfl, c1⟩
  have HR := Lib.hid (And.intro hr c1)
  clear hr c1
  go_wp2_with fail
  go_ret2
  exact ⟨r, HR.out.1, rfl, HR.out.2⟩
set_option maxRecDepth 100000 in
theorem cxx_norm (a b : Nat) (ha : a < 18446744073709551616) (hb : b < 18446744073709551616) (w : World) : Calls Tryz.prog 106 #[.int .i64 14, .int .u64 a, .int .u64 b] w (fun e w' => ∃ r : Nat, r < 18446744073709551616 ∧ e = .returned (.tuple #[.int .u64 r, .bool true]) ∧ Chg NoB w w') := by
  have HC := Lib.hid (fun w => (cNorm_ex a ha w))
  clear ha hb
  go_enter Tryz.func106, Tryz.ntmps106
  go_wp2_with fail
  with_reducible refine (HC.out _).mono ?_
  rintro e w1 ⟨r, hr, rfl, c1⟩
  have HR := Lib.hid (And.intro hr c1)
  clear hr c1
  go_wp2_with fail
  go_ret2
  exact ⟨r, HR.out.1, rfl, HR.out.2⟩
set_option maxHeartbeats 1000000 in
set_option maxRecDepth 100000 in
theorem rx10 (rd rs rt im : Int) (a b : Nat) (ha : a < 18446744073709551616) (hb : b < 18446744073709551616) (w : World) :
    Calls Tryz.prog 69 #[In.agg ⟨10, rd, rs, rt, im⟩, .int .u64 a, .int .u64 b] w (fun e w' => ∃ X : Cx, reckonF X ⟨10, rd, rs, rt, im⟩ a b < 18446744073709551616 ∧ e = .returned (.tuple #[.int .u64 (reckonF X ⟨10, rd, rs, rt, im⟩ a b), .bool true]) ∧ Chg NoB w w') := by
  unfold In.agg
  have hA : Chg NoB w (w.alloc (.cells #[.int .i64 10, .int .i64 rd, .int .i64 rs, .int .i64 rt, .int .i64 im] 41)) := (Chg.refl NoB w).alloc _
  have HA := Lib.hid hA
  have HT := Lib.hid (fun w => cxx_add a b ha hb w)
  clear ha hb hA
  go_enter Tryz.func69, Tryz.ntmps69
  go_wp2_with fail
  with_reducible refine (HT.out _).mono ?_
  rintro e w1 ⟨r, hr, rfl, c1⟩
  have HR := Lib.hid (And.intro hr (HA.out.step c1))
  clear hr c1
  go_wp2_with fail
  go_ret2
  exact ⟨oneCx r, HR.out.1, rfl, HR.out.2⟩
set_option maxHeartbeats 1000000 in
set_option maxRecDepth 100000 in
theorem rx11 (rd rs rt im : Int) (a b : Nat) (ha : a < 18446744073709551616) (hb : b < 18446744073709551616) (w : World) :
    Calls Tryz.prog 69 #[In.agg ⟨11, rd, rs, rt, im⟩, .int .u64 a, .int .u64 b] w (fun e w' => ∃ X : Cx, reckonF X ⟨11, rd, rs, rt, im⟩ a b < 18446744073709551616 ∧ e = .returned (.tuple #[.int .u64 (reckonF X ⟨11, rd, rs, rt, im⟩ a b), .bool true]) ∧ Chg NoB w w') := by
  unfold In.agg
  have hA : Chg NoB w (w.alloc (.cells #[.int .i64 11, .int .i64 rd, .int .i64 rs, .int .i64 rt, .int .i64 im] 41)) := (Chg.refl NoB w).alloc _
  have HA := Lib.hid hA
  have HT := Lib.hid (fun w => cxx_sub a b ha hb w)
  clear ha hb hA
  go_enter Tryz.func69, Tryz.ntmps69
  go_wp2_with fail
  with_reducible refine (HT.out _).mono ?_
  rintro e w1 ⟨r, hr, rfl, c1⟩
  have HR := Lib.hid (And.intro hr (HA.out.step c1))
  clear hr c1
  go_wp2_with fail
  go_ret2
  exact ⟨oneCx r, HR.out.1, rfl, HR.out.2⟩
set_option maxHeartbeats 1000000 in
set_option maxRecDepth 100000 in
theorem rx12 (rd rs rt im : Int) (a b : Nat) (ha : a < 18446744073709551616) (hb : b < 18446744073709551616) (w : World) :
    Calls Tryz.prog 69 #[In.agg ⟨12, rd, rs, rt, im⟩, .int .u64 a, .int .u64 b] w (fun e w' => ∃ X : Cx, reckonF X ⟨12, rd, rs, rt, im⟩ a b < 18446744073709551616 ∧ e = .returned (.tuple #[.int .u64 (reckonF X ⟨12, rd, rs, rt, im⟩ a b), .bool true]) ∧ Chg NoB w w') := by
  unfold In.agg
  have hA : Chg NoB w (w.alloc (.cells #[.int .i64 12, .int .i64 rd, .int .i64 rs, .int .i64 rt, .int .i64 im] 41)) := (Chg.refl NoB w).alloc _
  have HA := Lib.hid hA
  have HT := Lib.hid (fun w => cxx_mul a b ha hb w)
  clear ha hb hA
  go_enter Tryz.func69, Tryz.ntmps69
  go_wp2_with fail
  with_reducible refine (HT.out _).mono ?_
  rintro e w1 ⟨r, hr, rfl, c1⟩
  have HR := Lib.hid (And.intro hr (HA.out.step c1))
  clear hr c1
  go_wp2_with fail
  go_ret2
  exact ⟨oneCx r, HR.out.1, rfl, HR.out.2⟩
set_option maxHeartbeats 1000000 in
set_option maxRecDepth 100000 in
theorem rx13 (rd rs rt im : Int) (a b : Nat) (ha : a < 18446744073709551616) (hb : b < 18446744073709551616) (w : World) :
    Calls Tryz.prog 69 #[In.agg ⟨13, rd, rs, rt, im⟩, .int .u64 a, .int .u64 b] w (fun e w' => ∃ X : Cx, reckonF X ⟨13, rd, rs, rt, im⟩ a b < 18446744073709551616 ∧ e = .returned (.tuple #[.int .u64 (reckonF X ⟨13, rd, rs, rt, im⟩ a b), .bool true]) ∧ Chg NoB w w') := by
  unfold In.agg
  have hA : Chg NoB w (w.alloc (.cells #[.int .i64 13, .int .i64 rd, .int .i64 rs, .int .i64 rt, .int .i64 im] 41)) := (Chg.refl NoB w).alloc _
  have HA := Lib.hid hA
  have HT := Lib.hid (fun w => cxx_conj a b ha hb w)
  clear ha hb hA
  go_enter Tryz.func69, Tryz.ntmps69
  go_wp2_with fail
  with_reducible refine (HT.out _).mono ?_
  rintro e w1 ⟨r, hr, rfl, c1⟩
  have HR := Lib.hid (And.intro hr (HA.out.step c1))
  clear hr c1
  go_wp2_with fail
  go_ret2
  exact ⟨oneCx r, HR.out.1, rfl, HR.out.2⟩
set_option maxHeartbeats 1000000 in
set_option maxRecDepth 100000 in
theorem rx14 (rd rs rt im : Int) (a b : Nat) (ha : a < 18446744073709551616) (hb : b < 18446744073709551616) (w : World) :
    Calls Tryz.prog 69 #[In.agg ⟨14, rd, rs, rt, im⟩, .int .u64 a, .int .u64 b] w (fun e w' => ∃ X : Cx, reckonF X ⟨14, rd, rs, rt, im⟩ a b < 18446744073709551616 ∧ e = .returned (.tuple #[.int .u64 (reckonF X ⟨14, rd, rs, rt, im⟩ a b), .bool true]) ∧ Chg NoB w w') := by
  unfold In.agg
  have hA : Chg NoB w (w.alloc (.cells #[.int .i64 14, .int .i64 rd, .int .i64 rs, .int .i64 rt, .int .i64 im] 41)) := (Chg.refl NoB w).alloc _
  have HA := Lib.hid hA
  have HT := Lib.hid (fun w => cxx_norm a b ha hb w)
  clear ha hb hA
  go_enter Tryz.func69, Tryz.ntmps69
  go_wp2_with fail
  with_reducible refine (HT.out _).mono ?_
  rintro e w1 ⟨r, hr, rfl, c1⟩
  have HR := Lib.hid (And.intro hr (HA.out.step c1))
  clear hr c1
  go_wp2_with fail
  go_ret2
  exact ⟨oneCx r, HR.out.1, rfl, HR.out.2⟩
theorem rx_of {i : In} (ho : 1 ≤ i.op ∧ i.op ≤ 9) {a b : Nat} (ha : a < 18446744073709551616) (hb : b < 18446744073709551616) {w : World} (h : Calls Tryz.prog 69 #[i.agg, .int .u64 a, .int .u64 b] w (RetW (.tuple #[.int .u64 (reckonF anyCx i a b), .bool true]) fun w' => Chg NoB w w')) :
    Calls Tryz.prog 69 #[i.agg, .int .u64 a, .int .u64 b] w (fun e w' => ∃ X : Cx, reckonF X i a b < 18446744073709551616 ∧ e = .returned (.tuple #[.int .u64 (reckonF X i a b), .bool true]) ∧ Chg NoB w w') :=
  h.mono fun e w' ⟨he, hc⟩ => ⟨anyCx, reckonF_lt i (fun h => by omega) ha hb, he, hc⟩
theorem reckon_ex (i : In) (ho : 1 ≤ i.op ∧ i.op ≤ 14) (hi : -2048 ≤ i.im ∧ i.im ≤ 2047) (a b : Nat) (ha : a < 18446744073709551616) (hb : b < 18446744073709551616) (w : World) :
    Calls Tryz.prog 69 #[i.agg, .int .u64 a, .int .u64 b] w (fun e w' => ∃ X : Cx, reckonF X i a b < 18446744073709551616 ∧ e = .returned (.tuple #[.int .u64 (reckonF X i a b), .bool true]) ∧ Chg NoB w w') := by
  by_cases h9 : i.op ≤ 9
  · exact rx_of ⟨ho.1, h9⟩ ha hb (reckon_any i (fun h => by omega) ho hi a b ha hb w)
  · obtain ⟨o, rd, rs, rt, im⟩ := i
    dsimp only at ho hi h9
    have h : o = 10 ∨ o = 11 ∨ o = 12 ∨ o = 13 ∨ o = 14 := by omega
    rcases h with rfl | rfl | rfl | rfl | rfl
    · exact rx10 rd rs rt im a b ha hb w
    · exact rx11 rd rs rt im a b ha hb w
    · exact rx12 rd rs rt im a b ha hb w
    · exact rx13 rd rs rt im a b ha hb w
    · exact rx14 rd rs rt im a b ha hb w
end Go.Proofs.YtapmojfebljjnaaGreat
