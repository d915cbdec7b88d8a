/- Pieces of programs: the registers that they use. No condition. -/
import Derived.Test.YtdkplhdinklflaaBuild10
set_option linter.unusedVariables false
namespace Go.Proofs.Ytdkplhdinklflaa
open Go.RowKit Go.RR

def bitR (n : Int) : Nat := if ownB n = true then 2 ^ n.toNat else 0
def orL (l : List Int) (a : Nat) : Nat := l.foldl (fun a r => a ||| bitR r) a
def usesF (l : List In) : Nat := orL (l.flatMap regsL) 0
theorem bitR_lt (n : Int) : bitR n < 65536 := by
  unfold bitR
  split
  · rename_i h
    have := ownB_in h
    have h2 : (2 : Nat) ^ n.toNat < 2 ^ 16 := Nat.pow_lt_pow_right (by omega) (by omega)
    exact h2
  · omega
theorem or_lt16 {a b : Nat} (ha : a < 65536) (hb : b < 65536) : a ||| b < 65536 := Nat.or_lt_two_pow (n := 16) ha hb
theorem orL_lt : ∀ (l : List Int) (a : Nat), a < 65536 → orL l a < 65536
  | [], a, h => h
  | r :: l, a, h => orL_lt l _ (or_lt16 h (bitR_lt r))
theorem orL_snoc (l : List Int) (r : Int) (a : Nat) : orL (l ++ [r]) a = orL l a ||| bitR r := by unfold orL; rw [List.foldl_append]; rfl
theorem orL_app (l m : List Int) (a : Nat) : orL (l ++ m) a = orL m (orL l a) := by unfold orL; rw [List.foldl_append]
theorem orL_skip {l : List Int} {r : Int} {a : Nat} (h : ownB r = false) : orL (l ++ [r]) a = orL l a := by rw [orL_snoc]; unfold bitR; rw [if_neg (by simp [h]), Nat.or_zero]
theorem bits_or16 (a b : Nat) (ha : a < 65536) (hb : b < 65536) : bits .or .u16 (a : Int) (b : Int) = ((a ||| b : Nat) : Int) :=
  (bits_nat .u16 16 (by decide) (fun m h0 h1 => by rw [IntKind.wrap_u16]; omega) a b ha hb).2

theorem or_bit (a : Nat) (r : Int) (ha : a < 65536) (h : ownB r = true) : bits .or .u16 (a : Int) (IntKind.u16.wrap (2 ^ r.toNat)) = ((a ||| bitR r : Nat) : Int) := by
  have hb := bitR_lt r
  have e : IntKind.u16.wrap (2 ^ r.toNat) = ((bitR r : Nat) : Int) := by
    unfold bitR at hb ⊢
    rw [if_pos h] at hb ⊢
    rw [IntKind.wrap_u16]
    have e : ((2 ^ r.toNat : Nat) : Int) = (2 : Int) ^ r.toNat := by simp
    rw [← e]
    generalize 2 ^ r.toNat = x at *
    omega
  rw [e, bits_or16 a _ ha hb]
set_option maxHeartbeats 2000000 in
set_option maxRecDepth 100000 in
theorem uses39_any (S : Nat → Prop) (v : Value) (l : List In) (w : World) (hs : Sl w S 5 v l.length (icells l)) (hl : l.length ≤ 100000) : Calls Try.prog 25 #[v] w (RetW (.int .u16 (usesF l : Nat)) fun w' => Chg NoB w w') := by
  obtain ⟨p, cap, rfl, hI⟩ := InsAt.of hs hl
  have HI := Lib.hid hI
  clear hs hI
  go_enter Try.func25, Try.ntmps25
  go_wp2_with fail
  go_loopg [3, 10] l.length (fun g ov ix wr => ∃ n : Nat, n + g = l.length ∧ ix = .int .i64 n ∧ ov = .int .u16 (orL ((l.take n).flatMap regsL) 0 : Nat) ∧ Chg NoB w wr)
  case atStart => exact ⟨0, by omega, rfl, rfl, Chg.refl _ _⟩
  case round =>
    obtain ⟨n, hn, rfl, rfl, hC⟩ := hrel
    have HN := Lib.hid hn
    have hnl : n ≤ l.length := by omega
    clear hn
    by_cases hlt : n < l.length
    · obtain ⟨i, hi⟩ : ∃ i, l[n]? = some i := ⟨l[n], by simp [hlt]⟩
      obtain ⟨g, of, rfl, hg, x0, x1, x2, x3, x4⟩ := (HI.out.chg0 hC).at hi
      have hcap := HI.out.cap
      have n0 : (0 : Int) ≤ n := by omega
      have hnx : (l.take (n + 1)).flatMap regsL = (l.take n).flatMap regsL ++ regsL i := by rw [List.take_add_one, hi, List.flatMap_append]; simp
      have HX := Lib.hid hnx
      have HL := Lib.hid hi
      have HC := Lib.hid hC
      generalize hA : (l.take n).flatMap regsL = L at *
      have HA := Lib.hid hA
      clear hi hC hnx hA
      have A0 := Lib.hid ((Chg.refl NoB wr).alloc (.cells #[.int .i64 i.op, .int .i64 i.rd, .int .i64 i.rs, .int .i64 i.rt, .int .i64 i.im] 32))
      go_wp2_with fail
      refine (registers_any i _).mono ?_
      rintro e w1 ⟨v1, rfl, S1, C1⟩
      obtain ⟨p1, c1, e⟩ := S1.form
      subst e
      have HS1 := Lib.hid S1
      have HC1 := Lib.hid (HC.out.step (A0.out.step C1))
      have hrl : (regsL i).length ≤ 3 := by unfold regsL; split <;> split <;> split <;> simp
      generalize hR : regsL i = R at *
      have HR := Lib.hid hR
      clear x0 x1 x2 x3 x4 C1 S1 A0 HC hg hR
      obtain ⟨wo, hwo⟩ : ∃ wo, wo = wr := ⟨_, rfl⟩
      subst hwo
      go_wp2_with fail
      go_loopg [3, 17] R.length (fun g ov ix wr => ∃ m : Nat, m + g = R.length ∧ ix = .int .i64 m ∧ ov = .int .u16 (orL (L ++ R.take m) 0 : Nat) ∧ wr = w1)
      case atStart => exact ⟨0, by omega, rfl, by simp, rfl⟩
      case round =>
        obtain ⟨m, hm, rfl, rfl, rfl⟩ := hrel
        have HM := Lib.hid hm
        have hml : m ≤ R.length := by omega
        clear hm
        by_cases hmt : m < R.length
        · obtain ⟨r, hr⟩ : ∃ r, R[m]? = some r := ⟨R[m], by simp [hmt]⟩
          obtain ⟨-, pz, cz, e, hcz, hsz⟩ := HS1.out
          cases e
          obtain ⟨g1, of1, rfl, -, hg1, hcell⟩ := hsz (by omega)
          have x0 := hcell m _ (by rw [List.getElem?_map, hr]; rfl)
          have m0 : (0 : Int) ≤ m := by omega
          have hmx : R.take (m + 1) = R.take m ++ [r] := by rw [List.take_add_one, hr]; rfl
          have HMX := Lib.hid hmx
          clear hcell hsz hr hmx
          obtain ⟨b, hb⟩ : ∃ b, ownB r = b := ⟨_, rfl⟩
          have HB := Lib.hid hb
          clear hb
          go_wp2_with fail
          refine (own_any r _).mono ?_
          rintro e w' ⟨rfl, rfl⟩
          rw [HB.out]
          cases b
          · go_wp2_with fail
            go_roundg (R.length - (m + 1))
            case measure => have := HM.out; omega
            case rel => exact ⟨m + 1, by have := HM.out; omega, by go_num, by rw [HMX.out, ← List.append_assoc, orL_skip HB.out], rfl⟩
          · have hin := ownB_in HB.out
            obtain ⟨q0, q1⟩ := hin
            go_wp2_with fail
            go_roundg (R.length - (m + 1))
            case measure => have := HM.out; omega
            case rel => exact ⟨m + 1, by have := HM.out; omega, by go_num, by rw [HMX.out, ← List.append_assoc, orL_snoc]; exact congrArg (Value.int .u16) (or_bit _ r (orL_lt _ _ (by omega)) HB.out), rfl⟩
        · obtain rfl : m = R.length := by omega
          rw [List.take_length]
          go_wp2_with fail
          go_roundg (l.length - (n + 1))
          case measure => have := HN.out; omega
          case rel => exact ⟨n + 1, by have := HN.out; omega, by go_num, by rw [HX.out], HC1.out⟩
    · obtain rfl : n = l.length := by omega
      go_wp2_with fail
      go_ret
      refine ⟨?_, hC⟩
      unfold usesF
      rw [List.take_length]
      rfl
end Go.Proofs.Ytdkplhdinklflaa
