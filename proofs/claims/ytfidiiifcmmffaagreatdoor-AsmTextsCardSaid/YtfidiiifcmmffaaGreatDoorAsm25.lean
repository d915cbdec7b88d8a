/- AsmLabels returns true, whatever it is given. No condition. -/
import Derived.Test.YtfidiiifcmmffaaGreatDoorAsm23
import Derived.Test.YtfidiiifcmmffaaGreatDoorAsmP7
set_option linter.unusedVariables false
set_option linter.unusedSimpArgs false
namespace Go.Proofs.YtfidiiifcmmffaaGreatDoor
open Go.RowKit Go.RR
theorem u8_nat {a : Int} (h : (Lit.int .u8 a).wf = true) : ∃ n : Nat, a = n ∧ n ≤ 255 := by
  have h2 : 0 ≤ a ∧ a ≤ 255 := by
    simp [Lit.wf, IntKind.min, IntKind.max, IntKind.signed, IntKind.bits] at h
    omega
  exact ⟨a.toNat, by omega, by omega⟩
theorem repF_snoc (k : Nat) : repF (k + 1) = repF k ++ (fenB ++ [10]) := by
  unfold repF
  rw [List.replicate_succ', List.flatten_append]
  simp
theorem repF_len : ∀ k, (repF k).length = 6 * k
  | 0 => rfl
  | k + 1 => by rw [repF_snoc, List.length_append, repF_len k]; rfl
set_option maxHeartbeats 8000000 in
set_option maxRecDepth 100000 in
theorem asmLabels_any (b a : Nat) (w : World) (hb : b ≤ 255) (ha : a ≤ 255) (L : Lb w) : Calls Tryz.prog 6 #[.int .u8 b, .int .u8 a] w (RetW (.bool true) fun w' => Chg NoB w w') := by
  have HL := Lib.hid L
  have b0 : (0 : Int) ≤ b := by omega
  have b1 : (b : Int) ≤ 255 := by omega
  have a0 : (0 : Int) ≤ a := by omega
  have a1 : (a : Int) ≤ 255 := by omega
  clear L
  go_enter Tryz.func6, Tryz.ntmps6
  go_wp2_with fail
  refine (first21_any _ HL.out).mono ?_
  rintro e w1 ⟨rfl, C1⟩
  have HC1 := Lib.hid C1
  clear C1
  go_wp2_with fail
  go_loopg [13, 5] b (fun g ix tv wr => ∃ k : Nat, k + g = b ∧ ix = .int .u8 k ∧ tv = .string ⟨(repF k).toArray⟩ ∧ Chg NoB w wr)
  case atStart => exact ⟨0, Nat.zero_add _, rfl, rfl, HC1.out⟩
  case round =>
    obtain ⟨k, hk, rfl, rfl, hC⟩ := hrel
    rename World => wr
    have HK := Lib.hid hk
    have HC := Lib.hid hC
    have hkb : k ≤ b := by omega
    have hrl := repF_len k
    clear hk hC
    by_cases hlt : k < b
    · have l1 : ¬ 9223372036854775807 < (repF k).length + 6 := by omega
      have k0 : (0 : Int) ≤ k := by omega
      have k1 : (k : Int) < b := by omega
      have HR := Lib.hid (repF_snoc k)
      clear hrl
      go_wp2_with fail
      go_roundg (b - (k + 1))
      case measure => have := HK.out; omega
      case rel => exact ⟨k + 1, by have := HK.out; omega, by go_num, by rw [HR.out, ← bs_append]; rfl, HC.out⟩
    · obtain rfl : b = k := by omega
      have l1 : ¬ 9223372036854775807 < (repF b).length + 6 := by omega
      have HRL := Lib.hid hrl
      clear hrl
      go_wp2_with fail
      go_loopg [21, 5] a (fun g ix tv wr => ∃ k : Nat, k + g = a ∧ ix = .int .u8 k ∧ tv = .string ⟨(repF b ++ (hereB ++ 10 :: repF k)).toArray⟩ ∧ Chg NoB w wr)
      case atStart => exact ⟨0, Nat.zero_add _, rfl, by rw [show (⟨#[104, 101, 114, 101, 58, 10]⟩ : ByteArray) = ⟨(hereB ++ 10 :: repF 0).toArray⟩ from rfl, bs_append], HC.out⟩
      case round =>
        obtain ⟨k, hk, rfl, rfl, hC⟩ := hrel
        rename World => wr
        have HK := Lib.hid hk
        have HC' := Lib.hid hC
        have hka : k ≤ a := by omega
        have hkl : (repF b ++ (hereB ++ 10 :: repF k) : Bs).length = 6 * b + 6 + 6 * k := by
          simp only [List.length_append, List.length_cons, repF_len]
          simp [hereB]
          omega
        have HKL := Lib.hid hkl
        obtain ⟨U, hU⟩ : ∃ U, (repF b ++ (hereB ++ 10 :: repF k) : Bs) = U := ⟨_, rfl⟩
        rw [hU] at hkl HKL ⊢
        have HU := Lib.hid hU
        clear hk hC hU
        by_cases hlt : k < a
        · have l1 : ¬ 9223372036854775807 < U.length + 6 := by omega
          have k0 : (0 : Int) ≤ k := by omega
          have k1 : (k : Int) < a := by omega
          clear hkl
          go_wp2_with fail
          go_roundg (a - (k + 1))
          case measure => have := HK.out; omega
          case rel => exact ⟨k + 1, by have := HK.out; omega, by go_num, by
            rw [← HU.out, repF_snoc, show (⟨#[102, 101, 110, 99, 101, 10]⟩ : ByteArray) = ⟨(fenB ++ [10]).toArray⟩ from rfl, bs_append]
            simp, HC'.out⟩
        · obtain rfl : a = k := by omega
          have l1 : ¬ 9223372036854775807 < 17 + U.length := by omega
          have l2 : ¬ 9223372036854775807 < 17 + U.length + 17 := by omega
          have hx : (⟨#[98, 101, 113, 32, 114, 49, 44, 32, 114, 50, 44, 32, 104, 101, 114, 101, 10]⟩ : ByteArray) ++ ⟨U.toArray⟩ ++ ⟨#[106, 97, 108, 32, 114, 53, 44, 32, 104, 101, 114, 101, 10, 104, 97, 108, 116]⟩ = ⟨(labT b a).toArray⟩ := by
            rw [show (⟨#[98, 101, 113, 32, 114, 49, 44, 32, 114, 50, 44, 32, 104, 101, 114, 101, 10]⟩ : ByteArray) = ⟨(beqB ++ [10]).toArray⟩ from rfl, show (⟨#[106, 97, 108, 32, 114, 53, 44, 32, 104, 101, 114, 101, 10, 104, 97, 108, 116]⟩ : ByteArray) = ⟨(jalB ++ 10 :: haltB).toArray⟩ from rfl, bs_append, bs_append, ← HU.out]
            unfold labT
            simp
          have HX := Lib.hid hx
          have HPR := Lib.hid (parse_any (labT b a) wr (labT_len b a hb ha) (HL.out.chg0 HC'.out))
          clear hkl hx
          go_wp2_with fail
          rw [HX.out]
          refine HPR.out.mono ?_
          rintro e w2 ⟨v2, rfl, C2, lv, hv, S, hS⟩
          rw [labels_parse b a hb ha] at hv hS
          simp only [if_true] at hv
          subst hv
          obtain ⟨p, c, rfl, hI⟩ := InsAt.of hS (by rw [labI_len]; omega)
          have HC2 := Lib.hid (HC'.out.step C2)
          obtain ⟨g, of, rfl, hg, x0, x1, x2, x3, x4⟩ := hI.at (n := 0) (labI_first b a)
          obtain ⟨g', of', e', _, y0, y1, y2, y3, y4⟩ := hI.at (n := b + a + 1) (labI_jal b a)
          cases e'
          have hcap := hI.cap
          have hll := labI_len b a
          rw [hll] at hcap ⊢
          simp only [Nat.zero_mul, Nat.add_zero] at x0 x1 x2 x3 x4 y0 y1 y2 y3 y4
          have k1 := ins_eq ⟨15, 0, 1, 2, (b : Int) + 1⟩ ⟨15, 0, 1, 2, (b : Int) + 1⟩
          have k2 := ins_eq ⟨18, 5, 0, 0, -(a : Int)⟩ ⟨18, 5, 0, 0, -(a : Int)⟩
          rw [decide_eq_true rfl] at k1 k2
          simp only at k1 k2
          have k3 := eq_guard
          clear hI hS C2 hll
          go_wp2_with fail
          go_ret
          exact ⟨rfl, HC2.out⟩
end Go.Proofs.YtfidiiifcmmffaaGreatDoor
