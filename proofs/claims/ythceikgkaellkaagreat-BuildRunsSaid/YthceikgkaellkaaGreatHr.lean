/- Pieces of programs: Within, and the registers that they use. No condition. Pieces of programs: the registers that they use. No condition. -/
import Derived.Test.YthceikgkaellkaaGreatHq
set_option linter.unusedVariables false
namespace Go.Proofs.YthceikgkaellkaaGreat
open Go.RowKit Go.RR

def withinF (base imm t u : Int) (p : List In) : List In := if (lockB base imm t u && rightP p) = true then lockL base imm t u ++ (p ++ unlockF base imm) else []
theorem withinF_no {base imm t u : Int} {p : List In} (h : lockB base imm t u = false ∨ rightP p = false) : withinF base imm t u p = [] := by
  unfold withinF
  rw [if_neg]
  rcases h with h | h <;> simp [h]
theorem withinF_yes {base imm t u : Int} {p : List In} (h1 : lockB base imm t u = true) (h2 : rightP p = true) : withinF base imm t u p = lockL base imm t u ++ (p ++ unlockF base imm) := by
  unfold withinF
  rw [if_pos]
  simp [h1, h2]
theorem unlockF_len (base imm : Int) : (unlockF base imm).length ≤ 1 := by unfold unlockF; split <;> simp

set_option maxHeartbeats 2000000 in
set_option maxRecDepth 100000 in
theorem within_any (base imm t u : Int) (v : Value) (p : List In) (w : World) (hp : PAt w v p) (hl : p.length ≤ 1000) : Calls Tryz.prog 35 #[.int .i64 base, .int .i64 imm, .int .i64 t, .int .i64 u, v] w (RetSl fun x w' => IsNew w w' x (withinF base imm t u p)) := by
  obtain ⟨pp, pc, rfl⟩ := hp.form
  have HP := Lib.hid hp
  clear hp
  obtain ⟨b4, h4⟩ : ∃ x, rightP p = x := ⟨_, rfl⟩
  have H4 := Lib.hid h4
  clear h4
  by_cases hb : lockB base imm t u = true
  · have HB := Lib.hid hb
    clear hb
    go_enter Tryz.func35, Tryz.ntmps35
    go_wp2_with fail
    refine (lock_yes base imm t u _ HB.out).mono ?_
    rintro e w1 ⟨v1, rfl, ⟨a, rfl⟩, N1⟩
    have heq := fun w' => Lib.run_eql_slice_nil (P := Tryz.prog) w' 53 40 (some a) 4 4 0 0 Tryz.underlying53
    have HN1 := Lib.hid N1
    clear N1
    go_wp2_with fail
    refine (bright_any _ _ p _ (HP.out.chg0 HN1.out.2).choose_spec (by omega)).mono ?_
    rintro e w2 ⟨rfl, C2⟩
    rw [H4.out]
    have HC2 := Lib.hid C2
    clear C2
    cases b4
    ·
      go_wp2_with fail
      go_ret
      exact ⟨_, rfl, by rw [withinF_no (.inr H4.out)]; exact ⟨Own.nil _ _ _ _, HN1.out.2.step HC2.out⟩⟩
    · go_wp2_with fail
      refine (unlock_any base imm _).mono ?_
      rintro e w3 ⟨v3, rfl, N3⟩
      obtain ⟨p3, c3, e⟩ := N3.1.form
      subst e
      have HN3 := Lib.hid N3
      clear N3
      have hul := unlockF_len base imm
      go_wp2_with fail
      have hR := (HN1.out.at.chg0 (HC2.out.step HN3.out.2)).rows ((HP.out.chg0 ((HN1.out.2.step HC2.out).step HN3.out.2)).rows (HN3.out.at.rows (PRows.nil _)))
      refine (seq_rows _ _ _ hR _ rfl 3 rfl (by omega) (by simp [lockL]; omega)).mono ?_
      rintro e w4 ⟨v4, rfl, N4⟩
      have HN4 := Lib.hid (show IsNew _ w4 v4 (withinF base imm t u p) by rw [withinF_yes HB.out H4.out]; simpa using N4)
      have HC := Lib.hid ((HN1.out.2.step HC2.out).step HN3.out.2)
      clear N4 hR
      go_wp2_with fail
      go_ret
      exact ⟨_, rfl, HN4.out.from HC.out⟩
  · have hb' : lockB base imm t u = false := by simpa using hb
    have HB := Lib.hid hb'
    clear hb hb'
    go_enter Tryz.func35, Tryz.ntmps35
    go_wp2_with fail
    refine (lock_no base imm t u _ HB.out).mono ?_
    rintro e w1 ⟨rfl, rfl⟩
    have heq := fun w' => Lib.run_eql_slice_nil (P := Tryz.prog) w' 53 40 none 0 0 0 0 Tryz.underlying53
    go_wp2_with fail
    go_ret
    exact ⟨_, rfl, by rw [withinF_no (.inl HB.out)]; exact ⟨Own.nil _ _ _ _, Chg.refl _ _⟩⟩

def regsL (i : In) : List Int := (if (kd i.op).d then [i.rd] else []) ++ (if (kd i.op).q then [i.rs] else []) ++ (if (kd i.op).t then [i.rt] else [])
set_option maxHeartbeats 2000000 in
set_option maxRecDepth 100000 in
theorem registers_any (i : In) (w : World) : Calls Tryz.prog 67 #[.agg #[.int .i64 i.op, .int .i64 i.rd, .int .i64 i.rs, .int .i64 i.rt, .int .i64 i.im]] w (RetSl fun v w' => Sl w' (fun k => w.heap.size ≤ k) 1 v (regsL i).length ((regsL i).map (Value.int .i64)) ∧ Chg NoB w w') := by
  have hz : (w.alloc (.cells #[.int .i64 i.op, .int .i64 i.rd, .int .i64 i.rs, .int .i64 i.rt, .int .i64 i.im] 40)).heap.size = w.heap.size + 1 := by simp
  have HZ := Lib.hid hz
  clear hz
  obtain ⟨k, hk⟩ : ∃ k, kd i.op = k := ⟨_, rfl⟩
  have HK := Lib.hid hk
  clear hk
  cases k
  all_goals
    go_enter Tryz.func67, Tryz.ntmps67
    go_wp2_with fail
    refine (kind_any _ _).mono ?_
    rintro e w1 ⟨rfl, rfl⟩
    rw [HK.out]
    simp only [Kd.s]
    go_wp2_with fail
    go_ret
    refine ⟨_, rfl, ?_⟩
    unfold regsL
    rw [HK.out]
    simp only [Kd.d, Kd.q, Kd.t, if_true, if_false, List.append_nil, List.nil_append, List.cons_append, Bool.false_eq_true]
    first
    | exact ⟨Sl.nil _ _ _, (Chg.refl _ _).alloc _⟩
    | (refine ⟨?_, ((Chg.refl _ _).alloc _).alloc _⟩
       have N := Sl.fresh (size := 1) (w.alloc (.cells #[.int .i64 i.op, .int .i64 i.rd, .int .i64 i.rs, .int .i64 i.rt, .int .i64 i.im] 40)) [.int .i64 i.rd] 3 1 rfl
       rw [HZ.out] at N
       exact N.mono fun k hk => by omega)
    | (refine ⟨?_, ((Chg.refl _ _).alloc _).alloc _⟩
       have N := Sl.fresh (size := 1) (w.alloc (.cells #[.int .i64 i.op, .int .i64 i.rd, .int .i64 i.rs, .int .i64 i.rt, .int .i64 i.im] 40)) [.int .i64 i.rd, .int .i64 i.rs] 3 2 rfl
       rw [HZ.out] at N
       exact N.mono fun k hk => by omega)
    | (refine ⟨?_, ((Chg.refl _ _).alloc _).alloc _⟩
       have N := Sl.fresh (size := 1) (w.alloc (.cells #[.int .i64 i.op, .int .i64 i.rd, .int .i64 i.rs, .int .i64 i.rt, .int .i64 i.im] 40)) [.int .i64 i.rs, .int .i64 i.rt] 3 2 rfl
       rw [HZ.out] at N
       exact N.mono fun k hk => by omega)
    | (refine ⟨?_, ((Chg.refl _ _).alloc _).alloc _⟩
       have N := Sl.fresh (size := 1) (w.alloc (.cells #[.int .i64 i.op, .int .i64 i.rd, .int .i64 i.rs, .int .i64 i.rt, .int .i64 i.im] 40)) [.int .i64 i.rd, .int .i64 i.rs, .int .i64 i.rt] 3 3 rfl
       rw [HZ.out] at N
       exact N.mono fun k hk => by omega)
end Go.Proofs.YthceikgkaellkaaGreat
set_option linter.unusedVariables false
namespace Go.Proofs.YthceikgkaellkaaGreat
open Go.RowKit Go.RR

def bitR (n : Int) : Nat := if ownB n = true then 2 ^ n.toNat else 0
def orL (l : List Int) (a : Nat) : Nat := l.foldl (fun a r => a ||| bitR r) a
def usesF (l : List In) : Nat := orL (l.flatMap regsL) 0
theorem bitR_lt (n : Int) : bitR n < 65536 := by
  unfold bitR
  split
  · rename_i h
    have := ownB_in h
    have h2 : (2 : Nat) ^ n.toNat < 2 ^ 16 := Nat.pow_lt_pow_right (by omega) (by omega)
    exact h2
  · omega
theorem or_lt16 {a b : Nat} (ha : a < 65536) (hb : b < 65536) : a ||| b < 65536 := Nat.or_lt_two_pow (n := 16) ha hb
theorem orL_lt : ∀ (l : List Int) (a : Nat), a < 65536 → orL l a < 65536
  | [], a, h => h
  | r :: l, a, h => orL_lt l _ (or_lt16 h (bitR_lt r))
theorem orL_snoc (l : List Int) (r : Int) (a : Nat) : orL (l ++ [r]) a = orL l a ||| bitR r := by unfold orL; rw [List.foldl_append]; rfl
theorem orL_skip {l : List Int} {r : Int} {a : Nat} (h : ownB r = false) : orL (l ++ [r]) a = orL l a := by rw [orL_snoc]; unfold bitR; rw [if_neg (by simp [h]), Nat.or_zero]
theorem bits_or16 (a b : Nat) (ha : a < 65536) (hb : b < 65536) : bits .or .u16 (a : Int) (b : Int) = ((a ||| b : Nat) : Int) :=
  (bits_nat .u16 16 (by decide) (fun m h0 h1 => by rw [IntKind.wrap_u16]; omega) a b ha hb).2

theorem or_bit39 (a : Nat) (r : Int) (ha : a < 65536) (h : ownB r = true) : bits .or .u16 (a : Int) (IntKind.u16.wrap (2 ^ r.toNat)) = ((a ||| bitR r : Nat) : Int) := by
  have hb := bitR_lt r
  have e : IntKind.u16.wrap (2 ^ r.toNat) = ((bitR r : Nat) : Int) := by
    unfold bitR at hb ⊢
    rw [if_pos h] at hb ⊢
    rw [IntKind.wrap_u16]
    have e : ((2 ^ r.toNat : Nat) : Int) = (2 : Int) ^ r.toNat := by simp
    rw [← e]
    generalize 2 ^ r.toNat = x at *
    omega
  rw [e, bits_or16 a _ ha hb]
set_option maxHeartbeats 2000000 in
set_option maxRecDepth 100000 in
theorem uses39_any (S : Nat → Prop) (v : Value) (l : List In) (w : World) (hs : Sl w S 5 v l.length (icells l)) (hl : l.length ≤ 100000) : Calls Tryz.prog 30 #[v] w (RetW (.int .u16 (usesF l : Nat)) fun w' => Chg NoB w w') := by
  obtain ⟨p, cap, rfl, hI⟩ := InsAt.of hs hl
  have HI := Lib.hid hI
  clear hs hI
  go_enter Tryz.func30, Tryz.ntmps30
  go_wp2_with fail
  go_loopg [3, 10] l.length (fun g ov ix wr => ∃ n : Nat, n + g = l.length ∧ ix = .int .i64 n ∧ ov = .int .u16 (orL ((l.take n).flatMap regsL) 0 : Nat) ∧ Chg NoB w wr)
  case atStart => exact ⟨0, by omega, rfl, rfl, Chg.refl _ _⟩
  case round =>
    obtain ⟨n, hn, rfl, rfl, hC⟩ := hrel
    have HN := Lib.hid hn
    have hnl : n ≤ l.length := by omega
    clear hn
    by_cases hlt : n < l.length
    · obtain ⟨i, hi⟩ : ∃ i, l[n]? = some i := ⟨l[n], by simp [hlt]⟩
      obtain ⟨g, of, rfl, hg, x0, x1, x2, x3, x4⟩ := (HI.out.chg0 hC).at hi
      have hcap := HI.out.cap
      have n0 : (0 : Int) ≤ n := by omega
      have hnx : (l.take (n + 1)).flatMap regsL = (l.take n).flatMap regsL ++ regsL i := by rw [List.take_add_one, hi, List.flatMap_append]; simp
      have HX := Lib.hid hnx
      have HL := Lib.hid hi
      have HC := Lib.hid hC
      generalize hA : (l.take n).flatMap regsL = L at *
      have HA := Lib.hid hA
      clear hi hC hnx hA
      have A0 := Lib.hid ((Chg.refl NoB wr).alloc (.cells #[.int .i64 i.op, .int .i64 i.rd, .int .i64 i.rs, .int .i64 i.rt, .int .i64 i.im] 40))
      go_wp2_with fail
      refine (registers_any i _).mono ?_
      rintro e w1 ⟨v1, rfl, S1, C1⟩
      obtain ⟨p1, c1, e⟩ := S1.form
      subst e
      have HS1 := Lib.hid S1
      have HC1 := Lib.hid (HC.out.step (A0.out.step C1))
      have hrl : (regsL i).length ≤ 3 := by unfold regsL; split <;> split <;> split <;> simp
      generalize hR : regsL i = R at *
      have HR := Lib.hid hR
      clear x0 x1 x2 x3 x4 C1 S1 A0 HC hg hR
      obtain ⟨wo, hwo⟩ : ∃ wo, wo = wr := ⟨_, rfl⟩
      subst hwo
      go_wp2_with fail
      go_loopg [3, 17] R.length (fun g ov ix wr => ∃ m : Nat, m + g = R.length ∧ ix = .int .i64 m ∧ ov = .int .u16 (orL (L ++ R.take m) 0 : Nat) ∧ wr = w1)
      case atStart => exact ⟨0, by omega, rfl, by simp, rfl⟩
      case round =>
        obtain ⟨m, hm, rfl, rfl, rfl⟩ := hrel
        have HM := Lib.hid hm
        have hml : m ≤ R.length := by omega
        clear hm
        by_cases hmt : m < R.length
        · obtain ⟨r, hr⟩ : ∃ r, R[m]? = some r := ⟨R[m], by simp [hmt]⟩
          obtain ⟨-, pz, cz, e, hcz, hsz⟩ := HS1.out
          cases e
          obtain ⟨g1, of1, rfl, -, hg1, hcell⟩ := hsz (by omega)
          have x0 := hcell m _ (by rw [List.getElem?_map, hr]; rfl)
          have m0 : (0 : Int) ≤ m := by omega
          have hmx : R.take (m + 1) = R.take m ++ [r] := by rw [List.take_add_one, hr]; rfl
          have HMX := Lib.hid hmx
          clear hcell hsz hr hmx
          obtain ⟨b, hb⟩ : ∃ b, ownB r = b := ⟨_, rfl⟩
          have HB := Lib.hid hb
          clear hb
          go_wp2_with fail
          refine (own_any39 r _).mono ?_
          rintro e w' ⟨rfl, rfl⟩
          rw [HB.out]
          cases b
          · go_wp2_with fail
            go_roundg (R.length - (m + 1))
            case measure => have := HM.out; omega
            case rel => exact ⟨m + 1, by have := HM.out; omega, by go_num, by rw [HMX.out, ← List.append_assoc, orL_skip HB.out], rfl⟩
          · have hin := ownB_in HB.out
            obtain ⟨q0, q1⟩ := hin
            go_wp2_with fail
            go_roundg (R.length - (m + 1))
            case measure => have := HM.out; omega
            case rel => exact ⟨m + 1, by have := HM.out; omega, by go_num, by rw [HMX.out, ← List.append_assoc, orL_snoc]; exact congrArg (Value.int .u16) (or_bit39 _ r (orL_lt _ _ (by omega)) HB.out), rfl⟩
        · obtain rfl : m = R.length := by omega
          rw [List.take_length]
          go_wp2_with fail
          go_roundg (l.length - (n + 1))
          case measure => have := HN.out; omega
          case rel => exact ⟨n + 1, by have := HN.out; omega, by go_num, by rw [HX.out], HC1.out⟩
    · obtain rfl : n = l.length := by omega
      go_wp2_with fail
      go_ret
      refine ⟨?_, hC⟩
      unfold usesF
      rw [List.take_length]
      rfl
end Go.Proofs.YthceikgkaellkaaGreat
