/- Which registers are read and written, by the program. No condition. -/
import Derived.Test.YtdkplhdinklflaaBuild12
import Derived.Test.YtdkplhdinklflaaFlow
set_option linter.unusedVariables false
set_option linter.unusedSimpArgs false
set_option linter.unusedSectionVars false
namespace Go.Proofs.Ytdkplhdinklflaa
open Go.RowKit Go.RR

set_option maxHeartbeats 2000000 in
set_option maxRecDepth 100000 in
theorem set_any (v : Value) (l : List Int) (w : World) (hs : IAt w v l) (hl : l.length ≤ 1000) : Calls Try.prog 84 #[v] w fun e w' => e = .returned (.int .u16 (orL l 0 : Nat)) ∧ w = w' := by
  obtain ⟨p, cap, rfl⟩ := hs.form
  have HI := Lib.hid hs
  clear hs
  go_enter Try.func84, Try.ntmps84
  go_wp2_with fail
  go_loopg [3, 8] l.length (fun g ov ix wr => ∃ m : Nat, m + g = l.length ∧ ix = .int .i64 m ∧ ov = .int .u16 (orL (l.take m) 0 : Nat) ∧ wr = w)
  case atStart => exact ⟨0, by omega, rfl, rfl, rfl⟩
  case round =>
    obtain ⟨m, hm, rfl, rfl, rfl⟩ := hrel
    have HM := Lib.hid hm
    have hml : m ≤ l.length := by omega
    clear hm
    by_cases hmt : m < l.length
    · obtain ⟨r, hr⟩ : ∃ r, l[m]? = some r := ⟨l[m], by simp [hmt]⟩
      obtain ⟨-, hcap, g, of, rfl, hg, x0⟩ := HI.out.spot hr
      have m0 : (0 : Int) ≤ m := by omega
      have hmx : l.take (m + 1) = l.take m ++ [r] := by rw [List.take_add_one, hr]; rfl
      have HMX := Lib.hid hmx
      clear hr hmx
      by_cases h1 : 0 < r
      · have t1 : decide (0 < r) = true := by simp; omega
        by_cases h2 : r < 16
        · have t2 : decide (r < 16) = true := by simp; omega
          have HB := Lib.hid (ownB_yes (n := r) (by omega) (by omega))
          have q0 : 1 ≤ r := by omega
          have q1 : r ≤ 15 := by omega
          clear h1 h2
          go_wp2_with fail
          go_roundg (l.length - (m + 1))
          case measure => have := HM.out; omega
          case rel => exact ⟨m + 1, by have := HM.out; omega, by go_num, by rw [HMX.out, orL_snoc]; exact congrArg (Value.int .u16) (or_bit _ r (orL_lt _ _ (by omega)) HB.out), rfl⟩
        · have t2 : decide (r < 16) = false := by simp; omega
          have HB := Lib.hid (ownB_no (n := r) (.inr (by omega)))
          clear h1 h2
          go_wp2_with fail
          go_roundg (l.length - (m + 1))
          case measure => have := HM.out; omega
          case rel => exact ⟨m + 1, by have := HM.out; omega, by go_num, by rw [HMX.out, orL_skip HB.out], rfl⟩
      · have t1 : decide (0 < r) = false := by simp; omega
        have HB := Lib.hid (ownB_no (n := r) (.inl (by omega)))
        clear h1
        go_wp2_with fail
        go_roundg (l.length - (m + 1))
        case measure => have := HM.out; omega
        case rel => exact ⟨m + 1, by have := HM.out; omega, by go_num, by rw [HMX.out, orL_skip HB.out], rfl⟩
    · obtain rfl : m = l.length := by omega
      rw [List.take_length]
      go_wp2_with fail
      go_ret
      exact ⟨rfl, rfl⟩

theorem set1 (a : Int) : orL [a] 0 = bitR a := by simp [orL]
theorem set2 (a b : Int) : orL [a, b] 0 = bitR a ||| bitR b := by simp [orL]
set_option maxHeartbeats 2000000 in
set_option maxRecDepth 100000 in
theorem freads_any (i : In) (w : World) : Calls Try.prog 47 #[.agg #[.int .i64 i.op, .int .i64 i.rd, .int .i64 i.rs, .int .i64 i.rt, .int .i64 i.im]] w (RetW (.int .u16 (readsF i : Nat)) fun w' => Chg NoB w w') := by
  have B0 := Lib.hid (Blk.new w #[.int .i64 i.op, .int .i64 i.rd, .int .i64 i.rs, .int .i64 i.rt, .int .i64 i.im] 32)
  have A0 := Lib.hid ((Chg.refl NoB w).alloc (.cells #[.int .i64 i.op, .int .i64 i.rd, .int .i64 i.rs, .int .i64 i.rt, .int .i64 i.im] 32))
  obtain ⟨k, hk⟩ : ∃ k, kd i.op = k := ⟨_, rfl⟩
  have HK := Lib.hid hk
  have hz : (w.alloc (.cells #[.int .i64 i.op, .int .i64 i.rd, .int .i64 i.rs, .int .i64 i.rt, .int .i64 i.im] 32)).heap.size = w.heap.size + 1 := by simp
  have S1 : IAt ((w.alloc (.cells #[.int .i64 i.op, .int .i64 i.rd, .int .i64 i.rs, .int .i64 i.rt, .int .i64 i.im] 32)).alloc (.cells #[.int .i64 i.rs] 3)) (.slice (some ⟨w.heap.size + 1, 0, none⟩) 1 1) [i.rs] := by have h := IAt.fresh (w.alloc (.cells #[.int .i64 i.op, .int .i64 i.rd, .int .i64 i.rs, .int .i64 i.rt, .int .i64 i.im] 32)) [i.rs]; rw [hz] at h; exact h
  have S2 : IAt ((w.alloc (.cells #[.int .i64 i.op, .int .i64 i.rd, .int .i64 i.rs, .int .i64 i.rt, .int .i64 i.im] 32)).alloc (.cells #[.int .i64 i.rs, .int .i64 i.rt] 3)) (.slice (some ⟨w.heap.size + 1, 0, none⟩) 2 2) [i.rs, i.rt] := by have h := IAt.fresh (w.alloc (.cells #[.int .i64 i.op, .int .i64 i.rd, .int .i64 i.rs, .int .i64 i.rt, .int .i64 i.im] 32)) [i.rs, i.rt]; rw [hz] at h; exact h
  have HS1 := Lib.hid S1
  have HS2 := Lib.hid S2
  clear S1 S2 hz
  unfold readsF
  rw [hk]
  clear hk
  cases k
  all_goals
    simp only [Kd.q, Kd.t, if_true, if_false, Nat.or_zero, Nat.zero_or, Bool.false_eq_true]
    go_enter Try.func47, Try.ntmps47
    go_wp2_with fail
    refine (kind_any _ _).mono ?_
    rintro e w1 ⟨rfl, rfl⟩
    rw [HK.out]
    simp only [Kd.s]
    first
    | (go_wp2_with fail
       go_ret
       exact ⟨rfl, A0.out⟩)
    | (go_wp2_with fail
       (with_reducible refine (set_any _ _ _ HS1.out (by simp)).mono ?_)
       rintro e w2 ⟨rfl, rfl⟩
       rw [set1]
       go_wp2_with fail
       go_ret
       exact ⟨rfl, A0.out.alloc _⟩)
    | (go_wp2_with fail
       (with_reducible refine (set_any _ _ _ HS2.out (by simp)).mono ?_)
       rintro e w2 ⟨rfl, rfl⟩
       rw [set2]
       go_wp2_with fail
       go_ret
       exact ⟨rfl, A0.out.alloc _⟩)
set_option maxHeartbeats 2000000 in
set_option maxRecDepth 100000 in
theorem fwrites_any (i : In) (w : World) : Calls Try.prog 49 #[.agg #[.int .i64 i.op, .int .i64 i.rd, .int .i64 i.rs, .int .i64 i.rt, .int .i64 i.im]] w (RetW (.int .u16 (writesF i : Nat)) fun w' => Chg NoB w w') := by
  have B0 := Lib.hid (Blk.new w #[.int .i64 i.op, .int .i64 i.rd, .int .i64 i.rs, .int .i64 i.rt, .int .i64 i.im] 32)
  have A0 := Lib.hid ((Chg.refl NoB w).alloc (.cells #[.int .i64 i.op, .int .i64 i.rd, .int .i64 i.rs, .int .i64 i.rt, .int .i64 i.im] 32))
  obtain ⟨k, hk⟩ : ∃ k, kd i.op = k := ⟨_, rfl⟩
  have HK := Lib.hid hk
  have hz : (w.alloc (.cells #[.int .i64 i.op, .int .i64 i.rd, .int .i64 i.rs, .int .i64 i.rt, .int .i64 i.im] 32)).heap.size = w.heap.size + 1 := by simp
  have S1 : IAt ((w.alloc (.cells #[.int .i64 i.op, .int .i64 i.rd, .int .i64 i.rs, .int .i64 i.rt, .int .i64 i.im] 32)).alloc (.cells #[.int .i64 i.rd] 3)) (.slice (some ⟨w.heap.size + 1, 0, none⟩) 1 1) [i.rd] := by have h := IAt.fresh (w.alloc (.cells #[.int .i64 i.op, .int .i64 i.rd, .int .i64 i.rs, .int .i64 i.rt, .int .i64 i.im] 32)) [i.rd]; rw [hz] at h; exact h
  have S2 : IAt ((w.alloc (.cells #[.int .i64 i.op, .int .i64 i.rd, .int .i64 i.rs, .int .i64 i.rt, .int .i64 i.im] 32)).alloc (.cells #[.int .i64 i.rs, .int .i64 i.rt] 3)) (.slice (some ⟨w.heap.size + 1, 0, none⟩) 2 2) [i.rs, i.rt] := by have h := IAt.fresh (w.alloc (.cells #[.int .i64 i.op, .int .i64 i.rd, .int .i64 i.rs, .int .i64 i.rt, .int .i64 i.im] 32)) [i.rs, i.rt]; rw [hz] at h; exact h
  have HS1 := Lib.hid S1
  have HS2 := Lib.hid S2
  clear S1 S2 hz
  unfold writesF
  rw [hk]
  clear hk
  cases k
  all_goals
    simp only [Kd.d, if_true, if_false, Bool.false_eq_true]
    go_enter Try.func49, Try.ntmps49
    go_wp2_with fail
    refine (kind_any _ _).mono ?_
    rintro e w1 ⟨rfl, rfl⟩
    rw [HK.out]
    simp only [Kd.s]
    first
    | (go_wp2_with fail
       go_ret
       exact ⟨rfl, A0.out⟩)
    | (go_wp2_with fail
       (with_reducible refine (set_any _ _ _ HS1.out (by simp)).mono ?_)
       rintro e w2 ⟨rfl, rfl⟩
       rw [set1]
       go_wp2_with fail
       go_ret
       exact ⟨rfl, A0.out.alloc _⟩)
end Go.Proofs.Ytdkplhdinklflaa
