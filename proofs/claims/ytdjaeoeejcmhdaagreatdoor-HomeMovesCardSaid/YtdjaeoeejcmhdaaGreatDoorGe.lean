/- Entries of page tables as words. No condition. -/
import Derived.Test.YtdjaeoeejcmhdaaGreatDoorGd
set_option linter.unusedVariables false
set_option linter.unusedSimpArgs false
namespace Go.Proofs.YtdjaeoeejcmhdaaGreatDoor
open Go.RowKit Go.RR
set_option maxRecDepth 100000 in
theorem flags_any (p : Pte) (w : World) : Calls Tryz.prog 160 #[.agg #[.bool p.v, .bool p.r, .bool p.w, .bool p.x, .bool p.u, .bool p.g, .bool p.a, .bool p.d, .int .i64 p.rsw, .int .u64 p.ppn]] w (RetW (.agg #[.bool p.v, .bool p.r, .bool p.w, .bool p.x, .bool p.u, .bool p.g, .bool p.a, .bool p.d]) fun w' => Chg NoB w w') := by
  obtain ⟨v, r, pw, x, u, g, a, d, rsw, ppn⟩ := p
  go_enter Tryz.func160, Tryz.ntmps160
  go_wp2_with fail
  exact bodyPost_ret (v := .agg #[.bool v, .bool r, .bool pw, .bool x, .bool u, .bool g, .bool a, .bool d]) (by simp [results, Tryz.results160, go_sem]) rfl ⟨rfl, ((Chg.refl _ _).alloc _).alloc _⟩
set_option maxRecDepth 100000 in
theorem bit_any (b i v : Nat) (w : World) (h : w.cell? ⟨b, 0, none⟩ = some (.int .u64 v)) (hi : i < 8) (hv : v < 18446744073709551616) : Calls Tryz.prog 176 #[.int .i64 i, .pointer (some ⟨b, 0, none⟩)] w (RetW (.bool (bitB v i)) fun w' => w' = w) := by
  obtain ⟨q, hq⟩ : ∃ q, v / 2 ^ i = q := ⟨_, rfl⟩
  have e1 : (v : Int) / 2 ^ i = q := by rw [← hq]; simp
  have hq64 : q < 18446744073709551616 := by rw [← hq]; exact Nat.lt_of_le_of_lt (Nat.div_le_self _ _) hv
  have m1 : bits .and .u64 (q : Int) 1 = (q : Int) % 2 := by have := and_lo 1 (by omega) (q : Int) (by omega) (by omega); simpa using this
  obtain ⟨x, hx⟩ : ∃ x, ((q : Int) % 2 == 1) = x := ⟨_, rfl⟩
  have HV : Hid (bitB v i = x) := Lib.hid (by unfold bitB; rw [hq, ← hx, Bool.eq_iff_iff, decide_eq_true_iff, beq_iff_eq]; omega)
  have i0 : (0 : Int) ≤ i := by omega
  have i8 : (i : Int) ≤ 64 := by omega
  clear hq hv
  go_enter Tryz.func176, Tryz.ntmps176
  go_wp2_with fail
  go_ret
  exact ⟨ret_bool HV.out.symm, rfl⟩
def flagBit (p : Pte) : Nat → Bool
  | 0 => p.v | 1 => p.r | 2 => p.w | 3 => p.x | 4 => p.u | 5 => p.g | 6 => p.a | 7 => p.d | _ => false
def part (p : Pte) : Nat → Nat
  | 0 => 0
  | k + 1 => part p k + (flagBit p k).toNat * 2 ^ k
theorem part_lt (p : Pte) : ∀ k, part p k < 2 ^ k
  | 0 => by show 0 < 1; omega
  | k + 1 => by
    have := part_lt p k
    have h1 := Bool.toNat_lt (flagBit p k)
    show part p k + (flagBit p k).toNat * 2 ^ k < 2 ^ (k + 1)
    rw [Nat.pow_succ]
    have h2 : (flagBit p k).toNat * 2 ^ k ≤ 1 * 2 ^ k := Nat.mul_le_mul_right _ (by omega)
    omega
theorem part_all (p : Pte) : part p 8 = flags p := by
  unfold flags
  show 0 + p.v.toNat * 2 ^ 0 + p.r.toNat * 2 ^ 1 + p.w.toNat * 2 ^ 2 + p.x.toNat * 2 ^ 3 + p.u.toNat * 2 ^ 4 + p.g.toNat * 2 ^ 5 + p.a.toNat * 2 ^ 6 + p.d.toNat * 2 ^ 7 = _
  simp only [Nat.reducePow]
  omega
theorem or_bit (b x k : Nat) (hk : k < 8) (hb : b % 256 = 0) (hx : x < 2 ^ k) : (b + x) ||| 2 ^ k = b + (x + 2 ^ k) := by
  have hk8 : 2 ^ (k + 1) ∣ 256 := by
    have : (256 : Nat) = 2 ^ (k + 1) * 2 ^ (7 - k) := by rw [← Nat.pow_add, show k + 1 + (7 - k) = 8 by omega]
    rw [this]
    exact Nat.dvd_mul_right _ _
  have hb' : b % 2 ^ (k + 1) = 0 := Nat.mod_eq_zero_of_dvd (Nat.dvd_trans hk8 (Nat.dvd_of_mod_eq_zero hb))
  have h2 : (2 : Nat) ^ (k + 1) = 2 * 2 ^ k := by rw [Nat.pow_succ, Nat.mul_comm]
  rw [← nat_join (k + 1) b x hb' (by omega), Nat.or_assoc, Nat.or_comm x, nat_join k (2 ^ k) x (by simp) hx, Nat.add_comm (2 ^ k), nat_join (k + 1) b (x + 2 ^ k) hb' (by omega)]
set_option maxHeartbeats 4000000 in
set_option maxRecDepth 100000 in
theorem ptePut_any (p : Pte) (hp : p.Ok) (w : World) : Calls Tryz.prog 122 #[.agg #[.bool p.v, .bool p.r, .bool p.w, .bool p.x, .bool p.u, .bool p.g, .bool p.a, .bool p.d, .int .i64 p.rsw, .int .u64 p.ppn]] w (RetW (.int .u64 (pteW p)) fun w' => Chg NoB w w') := by
  obtain ⟨h1, h2, h3⟩ := hp
  have h3 : p.ppn < 17592186044416 := h3
  have HFL := Lib.hid fun w' => flags_any p w'
  obtain ⟨B, hB⟩ : ∃ B, p.ppn * 1024 + p.rsw.toNat * 256 = B := ⟨_, rfl⟩
  have HB : Hid (B % 256 = 0) := Lib.hid (by omega)
  have hB64 : B < 18014398509481984 := by omega
  have HW : Hid (pteW p = B + part p 8) := Lib.hid (by
    unfold pteW
    rw [part_all, Nat.mod_eq_of_lt h3, Int.emod_eq_of_lt h1 h2, hB])
  have m1 : bits .and .u64 (p.ppn : Int) 17592186044415 = (p.ppn : Int) := by
    have := and_lo 44 (by omega) (p.ppn : Int) (by omega) (by omega)
    rw [show (p.ppn : Int) % 2 ^ 44 = p.ppn by simp only [Int.reducePow]; omega] at this
    simpa using this
  have m2 : bits .and .i64 p.rsw 3 = p.rsw := by
    have := bits_mask .i64 63 (by decide) (fun m h0 h1 => by rw [IntKind.wrap_i64]; omega) 2 (by omega) p.rsw h1 (by simp only [Int.reducePow]; omega)
    rw [show p.rsw % 2 ^ 2 = p.rsw by simp only [Int.reducePow]; omega] at this
    simpa using this
  have m3 : bits .or .u64 ((p.ppn : Int) * 1024) (p.rsw * 256) = (B : Int) := by
    have := u64_or_nat (p.ppn * 1024) (p.rsw.toNat * 256) (by omega) (by omega)
    rw [nat_join 10 (p.ppn * 1024) _ (by simp) (by simp only [Nat.reducePow]; omega), hB] at this
    rw [← this]
    congr 1
    omega
  clear hB
  go_enter Tryz.func122, Tryz.ntmps122
  go_wp2_with fail
  with_reducible refine (HFL.out _).mono ?_
  rintro e w1 ⟨rfl, C1⟩
  have HC1 := Lib.hid (((Chg.refl NoB w).alloc _).step C1)
  clear C1
  go_wp2_with fail
  go_loopg [3, 4, 5, 18] 8 (fun g wv iv fv xv wr => ∃ k : Nat, k + g = 8 ∧ xv = .int .i64 k ∧ wv = .int .u64 ((B : Int) + (part p k : Int)) ∧ Chg NoB w wr)
  case atStart => exact ⟨0, rfl, rfl, congrArg (Value.int .u64) (by show (B : Int) = B + ((0 : Nat) : Int); omega), HC1.out⟩
  case round =>
    obtain ⟨k, hk, rfl, rfl, hC⟩ := hrel
    rename World => wr
    have HC := Lib.hid hC
    clear hC m1 m2 m3 HFL
    have hk8 : k ≤ 8 := by omega
    rcases (show k = 0 ∨ k = 1 ∨ k = 2 ∨ k = 3 ∨ k = 4 ∨ k = 5 ∨ k = 6 ∨ k = 7 ∨ k = 8 by omega) with rfl | rfl | rfl | rfl | rfl | rfl | rfl | rfl | rfl
    · obtain ⟨f, hf⟩ : ∃ f, p.v = f := ⟨_, rfl⟩
      have hix : (Instr.index 249 (.agg #[.bool p.v, .bool p.r, .bool p.w, .bool p.x, .bool p.u, .bool p.g, .bool p.a, .bool p.d]) (.int .i64 0)).run Tryz.prog wr = .ok (.bool f) wr := by
        rw [← hf]
        kernel_rfl
      have HP : Hid (part p (0 + 1) = part p 0 + f.toNat * 2 ^ 0) := Lib.hid (by rw [← hf]; rfl)
      have HX := part_lt p 0
      obtain ⟨X, hX⟩ : ∃ X, part p 0 = X := ⟨_, rfl⟩
      rw [hX] at HP HX ⊢
      have o1 : bits .or .u64 ((B : Int) + (X : Int)) 1 = ((B + (X + 1) : Nat) : Int) := by
        have h1 := u64_or_nat (B + X) 1 (by simp only [Nat.reducePow] at HX; omega) (by omega)
        have h2 := or_bit B X 0 (by omega) HB.out HX
        simp only [Nat.reducePow] at h2
        rw [h2] at h1
        rw [← h1]
        congr 1
      clear hX hf
      cases f
      · go_wp2_with fail
        go_roundg (8 - (0 + 1))
        case measure => omega
        case rel => exact ⟨0 + 1, rfl, rfl, by rw [HP.out]; rfl, HC.out⟩
      · go_wp2_with fail
        go_roundg (8 - (0 + 1))
        case measure => omega
        case rel => exact ⟨0 + 1, rfl, rfl, by rw [HP.out]; exact congrArg (Value.int .u64) (by simp only [Nat.reducePow, Bool.toNat_true]; omega), HC.out⟩
    · obtain ⟨f, hf⟩ : ∃ f, p.r = f := ⟨_, rfl⟩
      have hix : (Instr.index 249 (.agg #[.bool p.v, .bool p.r, .bool p.w, .bool p.x, .bool p.u, .bool p.g, .bool p.a, .bool p.d]) (.int .i64 1)).run Tryz.prog wr = .ok (.bool f) wr := by
        rw [← hf]
        kernel_rfl
      have HP : Hid (part p (1 + 1) = part p 1 + f.toNat * 2 ^ 1) := Lib.hid (by rw [← hf]; rfl)
      have HX := part_lt p 1
      obtain ⟨X, hX⟩ : ∃ X, part p 1 = X := ⟨_, rfl⟩
      rw [hX] at HP HX ⊢
      have o1 : bits .or .u64 ((B : Int) + (X : Int)) 2 = ((B + (X + 2) : Nat) : Int) := by
        have h1 := u64_or_nat (B + X) 2 (by simp only [Nat.reducePow] at HX; omega) (by omega)
        have h2 := or_bit B X 1 (by omega) HB.out HX
        simp only [Nat.reducePow] at h2
        rw [h2] at h1
        rw [← h1]
        congr 1
      clear hX hf
      cases f
      · go_wp2_with fail
        go_roundg (8 - (1 + 1))
        case measure => omega
        case rel => exact ⟨1 + 1, rfl, rfl, by rw [HP.out]; rfl, HC.out⟩
      · go_wp2_with fail
        go_roundg (8 - (1 + 1))
        case measure => omega
        case rel => exact ⟨1 + 1, rfl, rfl, by rw [HP.out]; exact congrArg (Value.int .u64) (by simp only [Nat.reducePow, Bool.toNat_true]; omega), HC.out⟩
    · obtain ⟨f, hf⟩ : ∃ f, p.w = f := ⟨_, rfl⟩
      have hix : (Instr.index 249 (.agg #[.bool p.v, .bool p.r, .bool p.w, .bool p.x, .bool p.u, .bool p.g, .bool p.a, .bool p.d]) (.int .i64 2)).run Tryz.prog wr = .ok (.bool f) wr := by
        rw [← hf]
        kernel_rfl
      have HP : Hid (part p (2 + 1) = part p 2 + f.toNat * 2 ^ 2) := Lib.hid (by rw [← hf]; rfl)
      have HX := part_lt p 2
      obtain ⟨X, hX⟩ : ∃ X, part p 2 = X := ⟨_, rfl⟩
      rw [hX] at HP HX ⊢
      have o1 : bits .or .u64 ((B : Int) + (X : Int)) 4 = ((B + (X + 4) : Nat) : Int) := by
        have h1 := u64_or_nat (B + X) 4 (by simp only [Nat.reducePow] at HX; omega) (by omega)
        have h2 := or_bit B X 2 (by omega) HB.out HX
        simp only [Nat.reducePow] at h2
        rw [h2] at h1
        rw [← h1]
        congr 1
      clear hX hf
      cases f
      · go_wp2_with fail
        go_roundg (8 - (2 + 1))
        case measure => omega
        case rel => exact ⟨2 + 1, rfl, rfl, by rw [HP.out]; rfl, HC.out⟩
      · go_wp2_with fail
        go_roundg (8 - (2 + 1))
        case measure => omega
        case rel => exact ⟨2 + 1, rfl, rfl, by rw [HP.out]; exact congrArg (Value.int .u64) (by simp only [Nat.reducePow, Bool.toNat_true]; omega), HC.out⟩
    · obtain ⟨f, hf⟩ : ∃ f, p.x = f := ⟨_, rfl⟩
      have hix : (Instr.index 249 (.agg #[.bool p.v, .bool p.r, .bool p.w, .bool p.x, .bool p.u, .bool p.g, .bool p.a, .bool p.d]) (.int .i64 3)).run Tryz.prog wr = .ok (.bool f) wr := by
        rw [← hf]
        kernel_rfl
      have HP : Hid (part p (3 + 1) = part p 3 + f.toNat * 2 ^ 3) := Lib.hid (by rw [← hf]; rfl)
      have HX := part_lt p 3
      obtain ⟨X, hX⟩ : ∃ X, part p 3 = X := ⟨_, rfl⟩
      rw [hX] at HP HX ⊢
      have o1 : bits .or .u64 ((B : Int) + (X : Int)) 8 = ((B + (X + 8) : Nat) : Int) := by
        have h1 := u64_or_nat (B + X) 8 (by simp only [Nat.reducePow] at HX; omega) (by omega)
        have h2 := or_bit B X 3 (by omega) HB.out HX
        simp only [Nat.reducePow] at h2
        rw [h2] at h1
        rw [← h1]
        congr 1
      clear hX hf
      cases f
      · go_wp2_with fail
        go_roundg (8 - (3 + 1))
        case measure => omega
        case rel => exact ⟨3 + 1, rfl, rfl, by rw [HP.out]; rfl, HC.out⟩
      · go_wp2_with fail
        go_roundg (8 - (3 + 1))
        case measure => omega
        case rel => exact ⟨3 + 1, rfl, rfl, by rw [HP.out]; exact congrArg (Value.int .u64) (by simp only [Nat.reducePow, Bool.toNat_true]; omega), HC.out⟩
    · obtain ⟨f, hf⟩ : ∃ f, p.u = f := ⟨_, rfl⟩
      have hix : (Instr.index 249 (.agg #[.bool p.v, .bool p.r, .bool p.w, .bool p.x, .bool p.u, .bool p.g, .bool p.a, .bool p.d]) (.int .i64 4)).run Tryz.prog wr = .ok (.bool f) wr := by
        rw [← hf]
        kernel_rfl
      have HP : Hid (part p (4 + 1) = part p 4 + f.toNat * 2 ^ 4) := Lib.hid (by rw [← hf]; rfl)
      have HX := part_lt p 4
      obtain ⟨X, hX⟩ : ∃ X, part p 4 = X := ⟨_, rfl⟩
      rw [hX] at HP HX ⊢
      have o1 : bits .or .u64 ((B : Int) + (X : Int)) 16 = ((B + (X + 16) : Nat) : Int) := by
        have h1 := u64_or_nat (B + X) 16 (by simp only [Nat.reducePow] at HX; omega) (by omega)
        have h2 := or_bit B X 4 (by omega) HB.out HX
        simp only [Nat.reducePow] at h2
        rw [h2] at h1
        rw [← h1]
        congr 1
      clear hX hf
      cases f
      · go_wp2_with fail
        go_roundg (8 - (4 + 1))
        case measure => omega
        case rel => exact ⟨4 + 1, rfl, rfl, by rw [HP.out]; rfl, HC.out⟩
      · go_wp2_with fail
        go_roundg (8 - (4 + 1))
        case measure => omega
        case rel => exact ⟨4 + 1, rfl, rfl, by rw [HP.out]; exact congrArg (Value.int .u64) (by simp only [Nat.reducePow, Bool.toNat_true]; omega), HC.out⟩
    · obtain ⟨f, hf⟩ : ∃ f, p.g = f := ⟨_, rfl⟩
      have hix : (Instr.index 249 (.agg #[.bool p.v, .bool p.r, .bool p.w, .bool p.x, .bool p.u, .bool p.g, .bool p.a, .bool p.d]) (.int .i64 5)).run Tryz.prog wr = .ok (.bool f) wr := by
        rw [← hf]
        kernel_rfl
      have HP : Hid (part p (5 + 1) = part p 5 + f.toNat * 2 ^ 5) := Lib.hid (by rw [← hf]; rfl)
      have HX := part_lt p 5
      obtain ⟨X, hX⟩ : ∃ X, part p 5 = X := ⟨_, rfl⟩
      rw [hX] at HP HX ⊢
      have o1 : bits .or .u64 ((B : Int) + (X : Int)) 32 = ((B + (X + 32) : Nat) : Int) := by
        have h1 := u64_or_nat (B + X) 32 (by simp only [Nat.reducePow] at HX; omega) (by omega)
        have h2 := or_bit B X 5 (by omega) HB.out HX
        simp only [Nat.reducePow] at h2
        rw [h2] at h1
        rw [← h1]
        congr 1
      clear hX hf
      cases f
      · go_wp2_with fail
        go_roundg (8 - (5 + 1))
        case measure => omega
        case rel => exact ⟨5 + 1, rfl, rfl, by rw [HP.out]; rfl, HC.out⟩
      · go_wp2_with fail
        go_roundg (8 - (5 + 1))
        case measure => omega
        case rel => exact ⟨5 + 1, rfl, rfl, by rw [HP.out]; exact congrArg (Value.int .u64) (by simp only [Nat.reducePow, Bool.toNat_true]; omega), HC.out⟩
    · obtain ⟨f, hf⟩ : ∃ f, p.a = f := ⟨_, rfl⟩
      have hix : (Instr.index 249 (.agg #[.bool p.v, .bool p.r, .bool p.w, .bool p.x, .bool p.u, .bool p.g, .bool p.a, .bool p.d]) (.int .i64 6)).run Tryz.prog wr = .ok (.bool f) wr := by
        rw [← hf]
        kernel_rfl
      have HP : Hid (part p (6 + 1) = part p 6 + f.toNat * 2 ^ 6) := Lib.hid (by rw [← hf]; rfl)
      have HX := part_lt p 6
      obtain ⟨X, hX⟩ : ∃ X, part p 6 = X := ⟨_, rfl⟩
      rw [hX] at HP HX ⊢
      have o1 : bits .or .u64 ((B : Int) + (X : Int)) 64 = ((B + (X + 64) : Nat) : Int) := by
        have h1 := u64_or_nat (B + X) 64 (by simp only [Nat.reducePow] at HX; omega) (by omega)
        have h2 := or_bit B X 6 (by omega) HB.out HX
        simp only [Nat.reducePow] at h2
        rw [h2] at h1
        rw [← h1]
        congr 1
      clear hX hf
      cases f
      · go_wp2_with fail
        go_roundg (8 - (6 + 1))
        case measure => omega
        case rel => exact ⟨6 + 1, rfl, rfl, by rw [HP.out]; rfl, HC.out⟩
      · go_wp2_with fail
        go_roundg (8 - (6 + 1))
        case measure => omega
        case rel => exact ⟨6 + 1, rfl, rfl, by rw [HP.out]; exact congrArg (Value.int .u64) (by simp only [Nat.reducePow, Bool.toNat_true]; omega), HC.out⟩
    · obtain ⟨f, hf⟩ : ∃ f, p.d = f := ⟨_, rfl⟩
      have hix : (Instr.index 249 (.agg #[.bool p.v, .bool p.r, .bool p.w, .bool p.x, .bool p.u, .bool p.g, .bool p.a, .bool p.d]) (.int .i64 7)).run Tryz.prog wr = .ok (.bool f) wr := by
        rw [← hf]
        kernel_rfl
      have HP : Hid (part p (7 + 1) = part p 7 + f.toNat * 2 ^ 7) := Lib.hid (by rw [← hf]; rfl)
      have HX := part_lt p 7
      obtain ⟨X, hX⟩ : ∃ X, part p 7 = X := ⟨_, rfl⟩
      rw [hX] at HP HX ⊢
      have o1 : bits .or .u64 ((B : Int) + (X : Int)) 128 = ((B + (X + 128) : Nat) : Int) := by
        have h1 := u64_or_nat (B + X) 128 (by simp only [Nat.reducePow] at HX; omega) (by omega)
        have h2 := or_bit B X 7 (by omega) HB.out HX
        simp only [Nat.reducePow] at h2
        rw [h2] at h1
        rw [← h1]
        congr 1
      clear hX hf
      cases f
      · go_wp2_with fail
        go_roundg (8 - (7 + 1))
        case measure => omega
        case rel => exact ⟨7 + 1, rfl, rfl, by rw [HP.out]; rfl, HC.out⟩
      · go_wp2_with fail
        go_roundg (8 - (7 + 1))
        case measure => omega
        case rel => exact ⟨7 + 1, rfl, rfl, by rw [HP.out]; exact congrArg (Value.int .u64) (by simp only [Nat.reducePow, Bool.toNat_true]; omega), HC.out⟩
    · go_wp2_with fail
      go_ret
      exact ⟨by rw [HW.out]; exact congrArg (fun z : Int => Ending.returned (Value.int .u64 z)) (by omega), HC.out⟩
theorem store_all {w : World} {g : Nat} {old : Array Value} {T : TypeId} (h : Blk w g old T) (vs : List Value) (hl : vs.length = old.size) : Blk (w.setCells g 0 vs) g vs.toArray T ∧ Chg (· = g) w (w.setCells g 0 vs) := by
  obtain ⟨c', k1, k2, k3, k4, k5, k6, k7, k8, k9⟩ := setCells_blk vs 0 w old h (by omega)
  have e : c' = vs.toArray := by
    apply Array.ext_getElem?
    intro i
    by_cases hi : i < vs.length
    · have := k3 i vs[i] (List.getElem?_eq_getElem hi)
      rw [Nat.zero_add] at this
      rw [this]
      simp [hi]
    · rw [Array.getElem?_eq_none (by omega), Array.getElem?_eq_none (by simp; omega)]
  rw [e] at k1
  exact ⟨k1, ⟨k7, k8, k9, Nat.le_of_eq k6.symm, fun k _ hk => k5 k hk⟩⟩
set_option maxHeartbeats 4000000 in
set_option maxRecDepth 100000 in
theorem pteGet_any (v : Nat) (hv : v < 18446744073709551616) (w : World) : Calls Tryz.prog 159 #[.int .u64 v] w (RetW (.tuple #[.agg #[.bool (pteG v).v, .bool (pteG v).r, .bool (pteG v).w, .bool (pteG v).x, .bool (pteG v).u, .bool (pteG v).g, .bool (pteG v).a, .bool (pteG v).d, .int .i64 (pteG v).rsw, .int .u64 (pteG v).ppn], .bool (pteOkW v)]) fun w' => Chg NoB w w') := by
  have HBT : Hid (∀ (k : Nat) (z : Int), z = (k : Int) → k < 8 → ∀ (w' : World), w'.cell? ⟨w.heap.size, 0, none⟩ = some (.int .u64 v) → Calls Tryz.prog 176 #[.int .i64 z, .pointer (some ⟨w.heap.size, 0, none⟩)] w' (RetW (.bool (bitB v k)) fun w'' => w'' = w')) := Lib.hid fun k z hz hk w' h => by
    rw [hz]
    exact bit_any w.heap.size k v w' h hk hv
  have HC0 := Lib.hid (((Blk.new w #[.int .u64 v] 33).alloc (.cells #[.bool false, .bool false, .bool false, .bool false, .bool false, .bool false, .bool false, .bool false, .int .i64 0, .int .u64 0] 135)).cell' (i := 0) (v := .int .u64 v) rfl)
  have e0 := HC0.out
  obtain ⟨b0, q0⟩ : ∃ x, bitB v 0 = x := ⟨_, rfl⟩
  obtain ⟨b1, q1⟩ : ∃ x, bitB v 1 = x := ⟨_, rfl⟩
  obtain ⟨b2, q2⟩ : ∃ x, bitB v 2 = x := ⟨_, rfl⟩
  obtain ⟨b3, q3⟩ : ∃ x, bitB v 3 = x := ⟨_, rfl⟩
  obtain ⟨b4, q4⟩ : ∃ x, bitB v 4 = x := ⟨_, rfl⟩
  obtain ⟨b5, q5⟩ : ∃ x, bitB v 5 = x := ⟨_, rfl⟩
  obtain ⟨b6, q6⟩ : ∃ x, bitB v 6 = x := ⟨_, rfl⟩
  obtain ⟨b7, q7⟩ : ∃ x, bitB v 7 = x := ⟨_, rfl⟩
  go_enter Tryz.func159, Tryz.ntmps159
  go_wp2_with fail
  with_reducible refine (HBT.out 0 0 rfl (by omega) _ HC0.out).mono ?_
  rintro e w1 ⟨rfl, hw1⟩
  subst hw1
  go_wp2_with fail
  with_reducible refine (HBT.out 1 1 rfl (by omega) _ HC0.out).mono ?_
  rintro e w1 ⟨rfl, hw1⟩
  subst hw1
  go_wp2_with fail
  with_reducible refine (HBT.out 2 2 rfl (by omega) _ HC0.out).mono ?_
  rintro e w1 ⟨rfl, hw1⟩
  subst hw1
  go_wp2_with fail
  with_reducible refine (HBT.out 3 3 rfl (by omega) _ HC0.out).mono ?_
  rintro e w1 ⟨rfl, hw1⟩
  subst hw1
  go_wp2_with fail
  with_reducible refine (HBT.out 4 4 rfl (by omega) _ HC0.out).mono ?_
  rintro e w1 ⟨rfl, hw1⟩
  subst hw1
  go_wp2_with fail
  with_reducible refine (HBT.out 5 5 rfl (by omega) _ HC0.out).mono ?_
  rintro e w1 ⟨rfl, hw1⟩
  subst hw1
  go_wp2_with fail
  with_reducible refine (HBT.out 6 6 rfl (by omega) _ HC0.out).mono ?_
  rintro e w1 ⟨rfl, hw1⟩
  subst hw1
  go_wp2_with fail
  with_reducible refine (HBT.out 7 7 rfl (by omega) _ HC0.out).mono ?_
  rintro e w1 ⟨rfl, hw1⟩
  subst hw1
  have m1 : bits .and .u64 ((v : Int) / 256) 3 = (v : Int) / 256 % 4 := by have := and_lo 2 (by omega) ((v : Int) / 256) (by omega) (by omega); simpa using this
  have m2 : bits .and .u64 (v : Int) 18014398509481983 = (v : Int) % 18014398509481984 := by have := and_lo 54 (by omega) (v : Int) (by omega) (by omega); simpa using this
  have m3 : bits .andNot .u64 (v : Int) 18014398509481983 = ((v / 18014398509481984 * 18014398509481984 : Nat) : Int) := by
    have := u64_andNot_nat v 18014398509481983 hv (by omega)
    rw [show (18446744073709551615 - 18014398509481983 : Nat) = 18428729675200069632 from rfl, nat_hi64_54, Nat.mod_eq_of_lt hv] at this
    exact this
  go_upto_region 5 with fail
  have HBw0 := ((Blk.new w #[.int .u64 v] 33).alloc (.cells #[.bool false, .bool false, .bool false, .bool false, .bool false, .bool false, .bool false, .bool false, .int .i64 0, .int .u64 0] 135)).alloc (.cells #[.bool b0, .bool b1, .bool b2, .bool b3, .bool b4, .bool b5, .bool b6, .bool b7, .int .i64 ((v : Int) / 256 % 4), .int .u64 ((v : Int) % 18014398509481984 / 1024)] 135)
  have HBr0 := (Blk.new (w.alloc (.cells #[.int .u64 v] 33)) #[.bool false, .bool false, .bool false, .bool false, .bool false, .bool false, .bool false, .bool false, .int .i64 0, .int .u64 0] 135).alloc (.cells #[.bool b0, .bool b1, .bool b2, .bool b3, .bool b4, .bool b5, .bool b6, .bool b7, .int .i64 ((v : Int) / 256 % 4), .int .u64 ((v : Int) % 18014398509481984 / 1024)] 135)
  have HBp0 := Blk.new ((w.alloc (.cells #[.int .u64 v] 33)).alloc (.cells #[.bool false, .bool false, .bool false, .bool false, .bool false, .bool false, .bool false, .bool false, .int .i64 0, .int .u64 0] 135)) #[.bool b0, .bool b1, .bool b2, .bool b3, .bool b4, .bool b5, .bool b6, .bool b7, .int .i64 ((v : Int) / 256 % 4), .int .u64 ((v : Int) % 18014398509481984 / 1024)] 135
  have hz1 : (w.alloc (.cells #[.int .u64 v] 33)).heap.size = w.heap.size + 1 := by simp
  have hz2 : ((w.alloc (.cells #[.int .u64 v] 33)).alloc (.cells #[.bool false, .bool false, .bool false, .bool false, .bool false, .bool false, .bool false, .bool false, .int .i64 0, .int .u64 0] 135)).heap.size = w.heap.size + 1 + 1 := by simp
  rw [hz1] at HBr0
  rw [hz2] at HBp0
  have HCz := (((Chg.refl NoB w).alloc (.cells #[.int .u64 v] 33)).alloc (.cells #[.bool false, .bool false, .bool false, .bool false, .bool false, .bool false, .bool false, .bool false, .int .i64 0, .int .u64 0] 135)).alloc (.cells #[.bool b0, .bool b1, .bool b2, .bool b3, .bool b4, .bool b5, .bool b6, .bool b7, .int .i64 ((v : Int) / 256 % 4), .int .u64 ((v : Int) % 18014398509481984 / 1024)] 135)
  have HOK : Hid (pteOkW v = decide (v / 18014398509481984 * 18014398509481984 = 0)) := Lib.hid (by unfold pteOkW; rw [Bool.eq_iff_iff, decide_eq_true_iff, decide_eq_true_iff]; omega)
  obtain ⟨X, hX⟩ : ∃ X, v / 18014398509481984 * 18014398509481984 = X := ⟨_, rfl⟩
  rw [hX] at m3 HOK
  obtain ⟨y, hy⟩ : ∃ y, decide (X = 0) = y := ⟨_, rfl⟩
  rw [hy] at HOK
  have t1 : ((X : Int) == 0) = y := by rw [← hy, Bool.eq_iff_iff, beq_iff_eq, decide_eq_true_iff]; omega
  have HG : Hid (pteG v = ⟨b0, b1, b2, b3, b4, b5, b6, b7, (v : Int) / 256 % 4, v % 18014398509481984 / 1024⟩) := Lib.hid (by
    unfold pteG
    rw [q0, q1, q2, q3, q4, q5, q6, q7]
    rfl)
  generalize ((w.alloc (.cells #[.int .u64 v] 33)).alloc (.cells #[.bool false, .bool false, .bool false, .bool false, .bool false, .bool false, .bool false, .bool false, .int .i64 0, .int .u64 0] 135)).alloc (.cells #[.bool b0, .bool b1, .bool b2, .bool b3, .bool b4, .bool b5, .bool b6, .bool b7, .int .i64 ((v : Int) / 256 % 4), .int .u64 ((v : Int) % 18014398509481984 / 1024)] 135) = wz at *
  have HBw := Lib.hid HBw0
  have HBr := Lib.hid HBr0
  have HBp := Lib.hid HBp0
  have HC := Lib.hid HCz
  clear HBw0 HBr0 HBp0 HCz hz1 hz2 hX hy m1 m2 q0 q1 q2 q3 q4 q5 q6 q7 HBT e0 HC0
  obtain ⟨wd, hwd⟩ : ∃ wd, wz.drew = wd := ⟨_, rfl⟩
  have HBw : Hid (Blk wd w.heap.size #[.int .u64 v] 33) := Lib.hid (hwd ▸ HBw.out.drew)
  have HBr := Lib.hid (hwd ▸ HBr.out.drew)
  have HBp := Lib.hid (hwd ▸ HBp.out.drew)
  have HC : Hid (Chg NoB w wd) := Lib.hid (hwd ▸ HC.out.drew)
  have HS : Hid ((fun w' => w'.cell? ⟨w.heap.size + 1 + 1, 0, none⟩ = some (.bool b0) ∧ w'.cell? ⟨w.heap.size + 1 + 1, 1, none⟩ = some (.bool b1) ∧ w'.cell? ⟨w.heap.size + 1 + 1, 2, none⟩ = some (.bool b2) ∧ w'.cell? ⟨w.heap.size + 1 + 1, 3, none⟩ = some (.bool b3) ∧ w'.cell? ⟨w.heap.size + 1 + 1, 4, none⟩ = some (.bool b4) ∧ w'.cell? ⟨w.heap.size + 1 + 1, 5, none⟩ = some (.bool b5) ∧ w'.cell? ⟨w.heap.size + 1 + 1, 6, none⟩ = some (.bool b6) ∧ w'.cell? ⟨w.heap.size + 1 + 1, 7, none⟩ = some (.bool b7) ∧ w'.cell? ⟨w.heap.size + 1 + 1, 8, none⟩ = some (.int .i64 ((v : Int) / 256 % 4)) ∧ w'.cell? ⟨w.heap.size + 1 + 1, 9, none⟩ = some (.int .u64 ((v : Int) % 18014398509481984 / 1024)) ∧ w'.cell? ⟨w.heap.size, 0, none⟩ = some (.int .u64 v)) wd) := Lib.hid ⟨HBp.out.cell' rfl, HBp.out.cell' rfl, HBp.out.cell' rfl, HBp.out.cell' rfl, HBp.out.cell' rfl, HBp.out.cell' rfl, HBp.out.cell' rfl, HBp.out.cell' rfl, HBp.out.cell' rfl, HBp.out.cell' rfl, HBw.out.cell' rfl⟩
  obtain ⟨w9, hw9s⟩ : ∃ w9, wd.setCells (w.heap.size + 1) 0 [.bool b0, .bool b1, .bool b2, .bool b3, .bool b4, .bool b5, .bool b6, .bool b7, .int .i64 ((v : Int) / 256 % 4), .int .u64 ((v : Int) % 18014398509481984 / 1024)] = w9 := ⟨_, rfl⟩
  have hw9 : ((((((((((wd.setCell ⟨w.heap.size + 1, 0, none⟩ (.bool b0)).setCell ⟨w.heap.size + 1, 1, none⟩ (.bool b1)).setCell ⟨w.heap.size + 1, 2, none⟩ (.bool b2)).setCell ⟨w.heap.size + 1, 3, none⟩ (.bool b3)).setCell ⟨w.heap.size + 1, 4, none⟩ (.bool b4)).setCell ⟨w.heap.size + 1, 5, none⟩ (.bool b5)).setCell ⟨w.heap.size + 1, 6, none⟩ (.bool b6)).setCell ⟨w.heap.size + 1, 7, none⟩ (.bool b7)).setCell ⟨w.heap.size + 1, 8, none⟩ (.int .i64 ((v : Int) / 256 % 4))).setCell ⟨w.heap.size + 1, 9, none⟩ (.int .u64 ((v : Int) % 18014398509481984 / 1024))) = w9 := by rw [← hw9s]; rfl
  have HSA := store_all HBr.out [.bool b0, .bool b1, .bool b2, .bool b3, .bool b4, .bool b5, .bool b6, .bool b7, .int .i64 ((v : Int) / 256 % 4), .int .u64 ((v : Int) % 18014398509481984 / 1024)] rfl
  rw [hw9s] at HSA
  have HBr9 := Lib.hid HSA.1
  have HC9 : Hid (Chg NoB w w9) := Lib.hid (HC.out.trans HSA.2 fun k hk e => by
    have e : k = w.heap.size + 1 := e
    omega)
  have HS9 : Hid ((fun w' => w'.cell? ⟨w.heap.size + 1 + 1, 0, none⟩ = some (.bool b0) ∧ w'.cell? ⟨w.heap.size + 1 + 1, 1, none⟩ = some (.bool b1) ∧ w'.cell? ⟨w.heap.size + 1 + 1, 2, none⟩ = some (.bool b2) ∧ w'.cell? ⟨w.heap.size + 1 + 1, 3, none⟩ = some (.bool b3) ∧ w'.cell? ⟨w.heap.size + 1 + 1, 4, none⟩ = some (.bool b4) ∧ w'.cell? ⟨w.heap.size + 1 + 1, 5, none⟩ = some (.bool b5) ∧ w'.cell? ⟨w.heap.size + 1 + 1, 6, none⟩ = some (.bool b6) ∧ w'.cell? ⟨w.heap.size + 1 + 1, 7, none⟩ = some (.bool b7) ∧ w'.cell? ⟨w.heap.size + 1 + 1, 8, none⟩ = some (.int .i64 ((v : Int) / 256 % 4)) ∧ w'.cell? ⟨w.heap.size + 1 + 1, 9, none⟩ = some (.int .u64 ((v : Int) % 18014398509481984 / 1024)) ∧ w'.cell? ⟨w.heap.size, 0, none⟩ = some (.int .u64 v)) w9) := Lib.hid (by
    have B1 := HSA.2.blk HBp.out (by show ¬ w.heap.size + 1 + 1 = w.heap.size + 1; omega)
    have B2 := HSA.2.blk HBw.out (by show ¬ w.heap.size = w.heap.size + 1; omega)
    exact ⟨B1.cell' rfl, B1.cell' rfl, B1.cell' rfl, B1.cell' rfl, B1.cell' rfl, B1.cell' rfl, B1.cell' rfl, B1.cell' rfl, B1.cell' rfl, B1.cell' rfl, B2.cell' rfl⟩)
  clear HSA hw9s
  have x0 := HBr.out.cell' (i := 0) (v := .bool false) rfl
  have x1 := HBr.out.cell' (i := 1) (v := .bool false) rfl
  have x2 := HBr.out.cell' (i := 2) (v := .bool false) rfl
  have x3 := HBr.out.cell' (i := 3) (v := .bool false) rfl
  have x4 := HBr.out.cell' (i := 4) (v := .bool false) rfl
  have x5 := HBr.out.cell' (i := 5) (v := .bool false) rfl
  have x6 := HBr.out.cell' (i := 6) (v := .bool false) rfl
  have x7 := HBr.out.cell' (i := 7) (v := .bool false) rfl
  have x8 := HBr.out.cell' (i := 8) (v := .int .i64 0) rfl
  have x9 := HBr.out.cell' (i := 9) (v := .int .u64 0) rfl
  have f0 := HBr.out.frozen 0
  have f1 := HBr.out.frozen 1
  have f2 := HBr.out.frozen 2
  have f3 := HBr.out.frozen 3
  have f4 := HBr.out.frozen 4
  have f5 := HBr.out.frozen 5
  have f6 := HBr.out.frozen 6
  have f7 := HBr.out.frozen 7
  have f8 := HBr.out.frozen 8
  have f9 := HBr.out.frozen 9
  have hbr := HBr.out.lt
  have hS0 := HS.out
  refine wp_region_all 5 2 [0, 1, 2] (fun w' => w'.cell? ⟨w.heap.size + 1 + 1, 0, none⟩ = some (.bool b0) ∧ w'.cell? ⟨w.heap.size + 1 + 1, 1, none⟩ = some (.bool b1) ∧ w'.cell? ⟨w.heap.size + 1 + 1, 2, none⟩ = some (.bool b2) ∧ w'.cell? ⟨w.heap.size + 1 + 1, 3, none⟩ = some (.bool b3) ∧ w'.cell? ⟨w.heap.size + 1 + 1, 4, none⟩ = some (.bool b4) ∧ w'.cell? ⟨w.heap.size + 1 + 1, 5, none⟩ = some (.bool b5) ∧ w'.cell? ⟨w.heap.size + 1 + 1, 6, none⟩ = some (.bool b6) ∧ w'.cell? ⟨w.heap.size + 1 + 1, 7, none⟩ = some (.bool b7) ∧ w'.cell? ⟨w.heap.size + 1 + 1, 8, none⟩ = some (.int .i64 ((v : Int) / 256 % 4)) ∧ w'.cell? ⟨w.heap.size + 1 + 1, 9, none⟩ = some (.int .u64 ((v : Int) % 18014398509481984 / 1024)) ∧ w'.cell? ⟨w.heap.size, 0, none⟩ = some (.int .u64 v)) (by kernel_rfl) (by kernel_rfl) (fun _ _ _ _ _ h => h) ((by rw [hwd]; exact hS0)) ?_
  simp only [pickOps_nil, pickOps_cons, Option.getD_some, List.getElem?_toArray, List.getElem?_cons_zero, List.getElem?_cons_succ, List.cons_append, List.nil_append, List.drop_succ_cons, List.drop_zero]
  repeat
    refine wpTake_cons' rfl ?_
    apply Exists.intro
    refine ⟨fun wS hS => ?_, ?_⟩
    · try dsimp only at hS
      obtain ⟨z0, z1, z2, z3, z4, z5, z6, z7, z8, z9, zv⟩ := hS
      go_simp
      try rfl
    simp only [Act.put, List.setIfInBounds_toArray, List.set_cons_zero, List.set_cons_succ]
  refine wpTake_nil ?_
  rw [hwd]
  refine wpAll_cons [3, 4] (by kernel_rfl) ?_
  intro i hi
  simp only [List.mem_cons, List.not_mem_nil, or_false] at hi
  rcases hi with rfl | rfl
  ·
    refine ⟨_, rfl, rfl, fun K hK => ?_⟩
    go_simp
    refine hK _ _ HS.out ?_
    clear hK K
    try simp only [Act.put, List.setIfInBounds_toArray, List.set_cons_zero, List.set_cons_succ]
    refine wpAll_cons [4] (by kernel_rfl) ?_
    intro i hi
    simp only [List.mem_cons, List.not_mem_nil, or_false] at hi
    subst hi
    refine ⟨_, rfl, rfl, fun K hK => ?_⟩
    go_simp
    try rw [hw9]
    refine hK _ _ HS9.out ?_
    clear hK K
    try simp only [Act.put, List.setIfInBounds_toArray, List.set_cons_zero, List.set_cons_succ]
    refine wpAll_nil ?_
    have y0 := HBr9.out.cell' (i := 0) (v := .bool b0) rfl
    have y1 := HBr9.out.cell' (i := 1) (v := .bool b1) rfl
    have y2 := HBr9.out.cell' (i := 2) (v := .bool b2) rfl
    have y3 := HBr9.out.cell' (i := 3) (v := .bool b3) rfl
    have y4 := HBr9.out.cell' (i := 4) (v := .bool b4) rfl
    have y5 := HBr9.out.cell' (i := 5) (v := .bool b5) rfl
    have y6 := HBr9.out.cell' (i := 6) (v := .bool b6) rfl
    have y7 := HBr9.out.cell' (i := 7) (v := .bool b7) rfl
    have y8 := HBr9.out.cell' (i := 8) (v := .int .i64 ((v : Int) / 256 % 4)) rfl
    have y9 := HBr9.out.cell' (i := 9) (v := .int .u64 ((v : Int) % 18014398509481984 / 1024)) rfl
    have hb9 := HBr9.out.lt
    clear hw9
    go_wp2_with fail
    exact bodyPost_ret (v := .tuple #[.agg #[.bool b0, .bool b1, .bool b2, .bool b3, .bool b4, .bool b5, .bool b6, .bool b7, .int .i64 ((v : Int) / 256 % 4), .int .u64 ((v : Int) % 18014398509481984 / 1024)], .bool y]) (by simp [results, Tryz.results159, go_sem, y0, y1, y2, y3, y4, y5, y6, y7, y8, y9, hb9]) rfl
      ⟨by rw [HG.out, HOK.out]; rfl, HC9.out⟩
  ·
    refine ⟨_, rfl, rfl, fun K hK => ?_⟩
    go_simp
    try rw [hw9]
    refine hK _ _ HS9.out ?_
    clear hK K
    try simp only [Act.put, List.setIfInBounds_toArray, List.set_cons_zero, List.set_cons_succ]
    refine wpAll_cons [3] (by kernel_rfl) ?_
    intro i hi
    simp only [List.mem_cons, List.not_mem_nil, or_false] at hi
    subst hi
    refine ⟨_, rfl, rfl, fun K hK => ?_⟩
    go_simp
    refine hK _ _ HS9.out ?_
    clear hK K
    try simp only [Act.put, List.setIfInBounds_toArray, List.set_cons_zero, List.set_cons_succ]
    refine wpAll_nil ?_
    have y0 := HBr9.out.cell' (i := 0) (v := .bool b0) rfl
    have y1 := HBr9.out.cell' (i := 1) (v := .bool b1) rfl
    have y2 := HBr9.out.cell' (i := 2) (v := .bool b2) rfl
    have y3 := HBr9.out.cell' (i := 3) (v := .bool b3) rfl
    have y4 := HBr9.out.cell' (i := 4) (v := .bool b4) rfl
    have y5 := HBr9.out.cell' (i := 5) (v := .bool b5) rfl
    have y6 := HBr9.out.cell' (i := 6) (v := .bool b6) rfl
    have y7 := HBr9.out.cell' (i := 7) (v := .bool b7) rfl
    have y8 := HBr9.out.cell' (i := 8) (v := .int .i64 ((v : Int) / 256 % 4)) rfl
    have y9 := HBr9.out.cell' (i := 9) (v := .int .u64 ((v : Int) % 18014398509481984 / 1024)) rfl
    have hb9 := HBr9.out.lt
    clear hw9
    go_wp2_with fail
    exact bodyPost_ret (v := .tuple #[.agg #[.bool b0, .bool b1, .bool b2, .bool b3, .bool b4, .bool b5, .bool b6, .bool b7, .int .i64 ((v : Int) / 256 % 4), .int .u64 ((v : Int) % 18014398509481984 / 1024)], .bool y]) (by simp [results, Tryz.results159, go_sem, y0, y1, y2, y3, y4, y5, y6, y7, y8, y9, hb9]) rfl
      ⟨by rw [HG.out, HOK.out]; rfl, HC9.out⟩
end Go.Proofs.YtdjaeoeejcmhdaaGreatDoor
