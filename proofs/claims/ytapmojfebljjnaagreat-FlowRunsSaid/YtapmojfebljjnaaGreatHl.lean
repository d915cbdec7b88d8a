/- Complex numbers: each answers some word; which one is left open. No condition. -/
import Derived.Test.YtapmojfebljjnaaGreatFa
import Derived.Laws.ComplexArith
import Derived.Test.YtapmojfebljjnaaGreatProg
import Derived.WalkKit
set_option linter.unusedVariables false
set_option linter.unusedSimpArgs false
namespace Go.Proofs.YtapmojfebljjnaaGreat
open Go.RowKit Go.RR
/-- Behind a draw or two. -/
def Drew (w w' : World) : Prop := ∃ n, w' = w.drewN n
theorem Drew.chg {w w' : World} (h : Drew w w') : Chg NoB w w' := Chg.of_ex h
theorem Drew.refl (w : World) : Drew w w := ⟨0, rfl⟩
theorem Drew.one (w : World) : Drew w w.drew := ⟨1, rfl⟩
theorem Drew.trans {w w' w'' : World} (h : Drew w w') (k : Drew w' w'') : Drew w w'' := by
  obtain ⟨n, rfl⟩ := h; obtain ⟨m, rfl⟩ := k
  exact ⟨n + m, by rw [World.drewN_drewN]⟩
section
variable {P : Program}
/-- What is asked of the tape, as a float. -/
theorem pick_ex (k : FloatKind) (q : Question) (w : World) : ∃ r w', ((do pure (.float k (← choose q)) : Sem Value)).run P w = .ok (.float k r) w' ∧ Drew w w' ∧ (r = 0 ∨ ∃ t, r = q.cut t) := by
  cases hf : q.forced with
  | true => exact ⟨0, w, by simp [hf], .refl w, .inl rfl⟩
  | false => exact ⟨q.cut (w.tape w.drawn q), w.drew, by simp [hf], .one w, .inr ⟨_, rfl⟩⟩
theorem cut_conv (b t : Nat) : (Question.floatToFloat b).cut t < 4294967296 := Nat.mod_lt _ (by omega)
theorem cut_nan (b t : Nat) : (Question.nanConv .f32 b).cut t < 4294967296 := by
  show (t % 2) * 2 ^ 31 + 0x7f800000 + 1 + (t / 2) % (2 ^ 23 - 1) < 4294967296
  omega
theorem arith_ex (op : BinOp) (hop : op = .add ∨ op = .sub ∨ op = .mul) (k : FloatKind) (x y : Nat) (w : World) : ∃ r w', (Op.floatArith op k x y).run P w = .ok (.float k r) w' ∧ Drew w w' := by
  obtain ⟨r, w', h, d, -⟩ := pick_ex (P := P) k (.nanBits k x y) w
  rcases hop with rfl | rfl | rfl
  · cases e : k.format.add x y with
    | some z => exact ⟨z, w, by simp [Op.floatArith, e], .refl w⟩
    | none => exact ⟨r, w', by rw [← h]; simp [Op.floatArith, e], d⟩
  · cases e : k.format.sub x y with
    | some z => exact ⟨z, w, by simp [Op.floatArith, e], .refl w⟩
    | none => exact ⟨r, w', by rw [← h]; simp [Op.floatArith, e], d⟩
  · cases e : k.format.mul x y with
    | some z => exact ⟨z, w, by simp [Op.floatArith, e], .refl w⟩
    | none => exact ⟨r, w', by rw [← h]; simp [Op.floatArith, e], d⟩
/-- A float32 made a float64. -/
theorem widen_ex (b : Nat) (w : World) : ∃ r w', (Conv.floatToFloat .f32 b .f64).run P w = .ok (.float .f64 r) w' ∧ Drew w w' := by
  unfold Conv.floatToFloat
  rw [if_neg (by decide)]
  split
  · obtain ⟨r, w', h, d, -⟩ := pick_ex (P := P) .f64 (.nanConv .f64 b) w
    exact ⟨r, w', h, d⟩
  · exact ⟨_, w, rfl, .refl w⟩
  · dsimp only
    split
    · obtain ⟨r, w', h, d, -⟩ := pick_ex (P := P) .f64 (.floatToFloat b) w
      exact ⟨r, w', h, d⟩
    · exact ⟨_, w, rfl, .refl w⟩
/-- A float64 made a float32: its bits are fewer than 2 ^ 32. -/
theorem narrow_ex (b : Nat) (w : World) : ∃ r w', (Conv.floatToFloat .f64 b .f32).run P w = .ok (.float .f32 r) w' ∧ Drew w w' ∧ r < 4294967296 := by
  unfold Conv.floatToFloat
  rw [if_neg (by decide)]
  split
  · obtain ⟨r, w', h, d, e⟩ := pick_ex (P := P) .f32 (.nanConv .f32 b) w
    refine ⟨r, w', h, d, ?_⟩
    rcases e with rfl | ⟨t, rfl⟩
    · omega
    · exact cut_nan b t
  · exact ⟨_, w, rfl, .refl w, FloatKind.f32.format.write_lt _⟩
  · dsimp only
    split
    · obtain ⟨r, w', h, d, e⟩ := pick_ex (P := P) .f32 (.floatToFloat b) w
      refine ⟨r, w', h, d, ?_⟩
      rcases e with rfl | ⟨t, rfl⟩
      · omega
      · exact cut_conv b t
    · exact ⟨_, w, rfl, .refl w, FloatKind.f32.format.write_lt _⟩
/-! The operations, as they stand. -/
theorem csum_ex (op : BinOp) (hop : op = .add ∨ op = .sub) (t : TypeId) (a b c d : Nat) (w : World) : ∃ re im w', (binOp op t (.complex .f64 a b) (.complex .f64 c d)).run P w = .ok (.complex .f64 re im) w' ∧ Drew w w' := by
  have hop' : op = .add ∨ op = .sub ∨ op = .mul := by rcases hop with h | h <;> simp [h]
  obtain ⟨r, w1, h1, d1⟩ := arith_ex (P := P) op hop' .f64 a c w
  obtain ⟨q, w2, h2, d2⟩ := arith_ex (P := P) op hop' .f64 b d w1
  refine ⟨r, q, w2, ?_, d1.trans d2⟩
  rcases hop with rfl | rfl <;> simp [binOp, Op.complexOp, Op.Complex.arith, h1, h2]
theorem fop_ex (op : BinOp) (hop : op = .add ∨ op = .sub ∨ op = .mul) (t : TypeId) (a b : Nat) (w : World) : ∃ r w', (binOp op t (.float .f64 a) (.float .f64 b)).run P w = .ok (.float .f64 r) w' ∧ Drew w w' := by
  obtain ⟨r, w1, h1, d1⟩ := arith_ex (P := P) op hop .f64 a b w
  refine ⟨r, w1, ?_, d1⟩
  rcases hop with rfl | rfl | rfl <;> simp [binOp, h1]
theorem cwide_ex (src dst : TypeId) (a b : Nat) (hs : (P.underlying src).isSome = true) (hd : P.underlying dst = some (.complex .f64)) (w : World) : ∃ re im w', (convert src dst (.complex .f32 a b)).run P w = .ok (.complex .f64 re im) w' ∧ Drew w w' := by
  obtain ⟨r, w1, h1, d1⟩ := widen_ex (P := P) a w
  obtain ⟨q, w2, h2, d2⟩ := widen_ex (P := P) b w1
  obtain ⟨u, hs'⟩ := Option.isSome_iff_exists.1 hs
  refine ⟨r, q, w2, ?_, d1.trans d2⟩
  cases u <;> simp [convert, run_underlying hs', run_underlying hd, Conv.complexToComplex, h1, h2]
theorem fnarrow_ex (src dst : TypeId) (a : Nat) (hs : (P.underlying src).isSome = true) (hd : P.underlying dst = some (.float .f32)) (w : World) : ∃ r w', (convert src dst (.float .f64 a)).run P w = .ok (.float .f32 r) w' ∧ Drew w w' ∧ r < 4294967296 := by
  obtain ⟨r, w1, h1, d1, hr⟩ := narrow_ex (P := P) a w
  obtain ⟨u, hs'⟩ := Option.isSome_iff_exists.1 hs
  refine ⟨r, w1, ?_, d1, hr⟩
  cases u <;> simp [convert, run_underlying hs', run_underlying hd, h1]
end
set_option maxRecDepth 100000 in
theorem run_from (n : Int) (w : World) : (callFunc 190 #[.int .u32 n]).run Tryz.prog w = .ok (.value (.float .f32 n.toNat)) w := by kernel_rfl
set_option maxRecDepth 100000 in
theorem run_bits (b : Nat) (w : World) : (callFunc 191 #[.float .f32 b]).run Tryz.prog w = .ok (.value (.int .u32 b)) w := by kernel_rfl
set_option maxRecDepth 100000 in
theorem float_ex (a : Nat) (w : World) : Calls Tryz.prog 186 #[.int .u64 a] w (fun e w' => ∃ r : Nat, r < 4294967296 ∧ e = .returned (.float .f32 r) ∧ w' = w) := by
  have h1 : IntKind.u32.wrap (a : Int) = ((a % 4294967296 : Nat) : Int) := by rw [IntKind.wrap_u32]; omega
  have h2 := run_from ((a % 4294967296 : Nat) : Int)
  have h3 : a % 4294967296 < 4294967296 := Nat.mod_lt _ (by omega)
  rw [Int.toNat_natCast] at h2
  generalize a % 4294967296 = r at *
  go_enter Tryz.func186, Tryz.ntmps186
  go_wp2_with fail
  go_ret
  exact ⟨r, h3, rfl, rfl⟩
set_option maxRecDepth 100000 in
theorem part_ex (a : Nat) (ha : a < 4294967296) (w : World) : Calls Tryz.prog 187 #[.float .f32 a] w (fun e w' => ∃ r : Nat, r < 4294967296 ∧ e = .returned (.int .u64 r) ∧ w' = w) := by
  obtain ⟨b, hb⟩ : ∃ b, (FloatKind.f32.format.order a a != some Ordering.eq) = b := ⟨_, rfl⟩
  have h1 : IntKind.u64.wrap (a : Int) = (a : Int) := by rw [IntKind.wrap_u64]; omega
  have h2 := run_bits a
  have HA := Lib.hid ha
  clear ha
  cases b
  · go_enter Tryz.func187, Tryz.ntmps187
    go_wp2_with fail
    go_ret
    exact ⟨a, HA.out, rfl, rfl⟩
  · go_enter Tryz.func187, Tryz.ntmps187
    go_wp2_with fail
    go_ret
    exact ⟨2143289344, by omega, rfl, rfl⟩
set_option maxRecDepth 100000 in
theorem unpack_ex (a : Nat) (ha : a < 18446744073709551616) (w : World) : Calls Tryz.prog 168 #[.int .u64 a] w (fun e w' => ∃ re im : Nat, re < 4294967296 ∧ im < 4294967296 ∧ e = .returned (.complex .f32 re im) ∧ w' = w) := by
  have HF := Lib.hid (fun a w => float_ex a w)
  have h1 : (a : Int) / 2 ^ 32 = ((a / 4294967296 : Nat) : Int) := by omega
  have h1' : (a : Int) / 4294967296 = ((a / 4294967296 : Nat) : Int) := by omega
  clear ha
  generalize a / 4294967296 = q at *
  go_enter Tryz.func168, Tryz.ntmps168
  go_wp2_with fail
  with_reducible refine (HF.out _ _).mono ?_
  rintro e w1 ⟨r, hr, rfl, rfl⟩
  have HR := Lib.hid hr
  clear hr
  go_wp2_with fail
  with_reducible refine (HF.out _ _).mono ?_
  rintro e w1 ⟨s, hs, rfl, rfl⟩
  have HS := Lib.hid hs
  clear hs
  go_wp2_with fail
  go_ret
  exact ⟨r, s, HR.out, HS.out, rfl, rfl⟩
set_option maxRecDepth 100000 in
theorem wide_ex (a : Nat) (ha : a < 18446744073709551616) (w : World) : Calls Tryz.prog 166 #[.int .u64 a] w (fun e w' => ∃ re im : Nat, e = .returned (.complex .f64 re im) ∧ Drew w w') := by
  have HU := Lib.hid (unpack_ex a ha)
  clear ha
  go_enter Tryz.func166, Tryz.ntmps166
  go_wp2_with fail
  with_reducible refine (HU.out _).mono ?_
  rintro e w1 ⟨r, s, -, -, rfl, rfl⟩
  obtain ⟨re, im, w2, h, d⟩ := cwide_ex (P := Tryz.prog) 275 271 r s (by kernel_rfl) (by kernel_rfl) w1
  have HD := Lib.hid d
  clear d
  go_wp2_with fail
  go_ret
  exact ⟨re, im, rfl, HD.out⟩
set_option maxRecDepth 100000 in
theorem pack_ex (a b : Nat) (ha : a < 4294967296) (hb : b < 4294967296) (w : World) : Calls Tryz.prog 169 #[.complex .f32 a b] w (fun e w' => ∃ r : Nat, r < 18446744073709551616 ∧ e = .returned (.int .u64 r) ∧ w' = w) := by
  have HP := Lib.hid (part_ex a ha)
  have HQ := Lib.hid (part_ex b hb)
  clear ha hb
  go_enter Tryz.func169, Tryz.ntmps169
  go_wp2_with fail
  with_reducible refine (HP.out _).mono ?_
  rintro e w1 ⟨r, hr, rfl, rfl⟩
  have HR := Lib.hid hr
  clear hr
  go_wp2_with fail
  with_reducible refine (HQ.out _).mono ?_
  rintro e w1 ⟨s, hs, rfl, rfl⟩
  have h1 : IntKind.u64.wrap ((s : Int) * 2 ^ 32) = ((s * 4294967296 : Nat) : Int) := by rw [IntKind.wrap_u64]; omega
  have h1' : IntKind.u64.wrap ((s : Int) * 4294967296) = ((s * 4294967296 : Nat) : Int) := by rw [IntKind.wrap_u64]; omega
  have h2 := u64_or_nat r (s * 4294967296) (by have := HR.out; omega) (by omega)
  have h3 : r ||| s * 4294967296 < 18446744073709551616 := Nat.or_lt_two_pow (n := 64) (by have := HR.out; omega) (by omega)
  have H3 := Lib.hid h3
  generalize r ||| s * 4294967296 = x at *
  generalize s * 4294967296 = y at *
  clear hs h3
  go_wp2_with fail
  go_ret
  exact ⟨x, H3.out, rfl, rfl⟩
set_option maxRecDepth 100000 in
theorem narrow64_ex (a b : Nat) (w : World) : Calls Tryz.prog 167 #[.float .f64 a, .float .f64 b] w (fun e w' => ∃ r : Nat, r < 18446744073709551616 ∧ e = .returned (.int .u64 r) ∧ Drew w w') := by
  obtain ⟨re, w1, h1, d1, b1⟩ := fnarrow_ex (P := Tryz.prog) 274 278 a (by kernel_rfl) (by kernel_rfl) w
  obtain ⟨im, w2, h2, d2, b2⟩ := fnarrow_ex (P := Tryz.prog) 274 278 b (by kernel_rfl) (by kernel_rfl) w1
  have HP := Lib.hid (pack_ex re im b1 b2)
  have HD := Lib.hid (d1.trans d2)
  clear b1 b2 d1 d2
  go_enter Tryz.func167, Tryz.ntmps167
  go_wp2_with fail
  with_reducible refine (HP.out _).mono ?_
  rintro e w3 ⟨r, hr, rfl, rfl⟩
  have HR := Lib.hid hr
  clear hr
  go_wp2_with fail
  go_ret
  exact ⟨r, HR.out, rfl, HD.out⟩
set_option maxRecDepth 100000 in
theorem cAdd_ex (a b : Nat) (ha : a < 18446744073709551616) (hb : b < 18446744073709551616) (w : World) : Calls Tryz.prog 136 #[.int .u64 a, .int .u64 b] w (fun e w' => ∃ r : Nat, r < 18446744073709551616 ∧ e = .returned (.int .u64 r) ∧ Chg NoB w w') := by
  have HA := Lib.hid (wide_ex a ha)
  have HB := Lib.hid (wide_ex b hb)
  clear ha hb
  go_enter Tryz.func136, Tryz.ntmps136
  go_wp2_with fail
  with_reducible refine (HA.out _).mono ?_
  rintro e w1 ⟨r1, r2, rfl, d1⟩
  have HD1 := Lib.hid d1
  clear d1
  go_wp2_with fail
  with_reducible refine (HB.out _).mono ?_
  rintro e w2 ⟨s1, s2, rfl, d2⟩
  obtain ⟨x, y, w3, h, d3⟩ := csum_ex (P := Tryz.prog) .add (.inl rfl) 271 r1 r2 s1 s2 w2
  have HD2 := Lib.hid ((HD1.out.trans d2).trans d3)
  clear d2 d3
  go_wp2_with fail
  with_reducible refine (narrow64_ex x y _).mono ?_
  rintro e w4 ⟨r, hr, rfl, d4⟩
  have HR := Lib.hid hr
  have HD3 := Lib.hid (HD2.out.trans d4)
  clear hr d4
  go_wp2_with fail
  go_ret
  exact ⟨r, HR.out, rfl, HD3.out.chg⟩
set_option maxRecDepth 100000 in
theorem cSub_ex (a b : Nat) (ha : a < 18446744073709551616) (hb : b < 18446744073709551616) (w : World) : Calls Tryz.prog 137 #[.int .u64 a, .int .u64 b] w (fun e w' => ∃ r : Nat, r < 18446744073709551616 ∧ e = .returned (.int .u64 r) ∧ Chg NoB w w') := by
  have HA := Lib.hid (wide_ex a ha)
  have HB := Lib.hid (wide_ex b hb)
  clear ha hb
  go_enter Tryz.func137, Tryz.ntmps137
  go_wp2_with fail
  with_reducible refine (HA.out _).mono ?_
  rintro e w1 ⟨r1, r2, rfl, d1⟩
  have HD1 := Lib.hid d1
  clear d1
  go_wp2_with fail
  with_reducible refine (HB.out _).mono ?_
  rintro e w2 ⟨s1, s2, rfl, d2⟩
  obtain ⟨x, y, w3, h, d3⟩ := csum_ex (P := Tryz.prog) .sub (.inr rfl) 271 r1 r2 s1 s2 w2
  have HD2 := Lib.hid ((HD1.out.trans d2).trans d3)
  clear d2 d3
  go_wp2_with fail
  with_reducible refine (narrow64_ex x y _).mono ?_
  rintro e w4 ⟨r, hr, rfl, d4⟩
  have HR := Lib.hid hr
  have HD3 := Lib.hid (HD2.out.trans d4)
  clear hr d4
  go_wp2_with fail
  go_ret
  exact ⟨r, HR.out, rfl, HD3.out.chg⟩
set_option maxRecDepth 100000 in
theorem cMul_ex (a b : Nat) (ha : a < 18446744073709551616) (hb : b < 18446744073709551616) (w : World) : Calls Tryz.prog 138 #[.int .u64 a, .int .u64 b] w (fun e w' => ∃ r : Nat, r < 18446744073709551616 ∧ e = .returned (.int .u64 r) ∧ Chg NoB w w') := by
  have HA := Lib.hid (wide_ex a ha)
  have HB := Lib.hid (wide_ex b hb)
  clear ha hb
  go_enter Tryz.func138, Tryz.ntmps138
  go_wp2_with fail
  with_reducible refine (HA.out _).mono ?_
  rintro e w1 ⟨r1, r2, rfl, d1⟩
  have HD1 := Lib.hid d1
  clear d1
  go_wp2_with fail
  with_reducible refine (HB.out _).mono ?_
  rintro e w2 ⟨s1, s2, rfl, d2⟩
  obtain ⟨x1, w3, h1, e1⟩ := fop_ex (P := Tryz.prog) .mul (.inr (.inr rfl)) 274 r1 s1 w2
  obtain ⟨x2, w4, h2, e2⟩ := fop_ex (P := Tryz.prog) .mul (.inr (.inr rfl)) 274 r2 s2 w3
  obtain ⟨x3, w5, h3, e3⟩ := fop_ex (P := Tryz.prog) .mul (.inr (.inr rfl)) 274 r1 s2 w4
  obtain ⟨x4, w6, h4, e4⟩ := fop_ex (P := Tryz.prog) .mul (.inr (.inr rfl)) 274 r2 s1 w5
  obtain ⟨x5, w7, h5, e5⟩ := fop_ex (P := Tryz.prog) .sub (.inr (.inl rfl)) 274 x1 x2 w6
  obtain ⟨x6, w8, h6, e6⟩ := fop_ex (P := Tryz.prog) .add (.inl rfl) 274 x3 x4 w7
  have HD2 := Lib.hid (((((((HD1.out.trans d2).trans e1).trans e2).trans e3).trans e4).trans e5).trans e6)
  clear d2 e1 e2 e3 e4 e5 e6
  go_wp2_with fail
  with_reducible refine (narrow64_ex x5 x6 _).mono ?_
  rintro e w9 ⟨r, hr, rfl, d4⟩
  have HR := Lib.hid hr
  have HD3 := Lib.hid (HD2.out.trans d4)
  clear hr d4
  go_wp2_with fail
  go_ret
  exact ⟨r, HR.out, rfl, HD3.out.chg⟩
set_option maxRecDepth 100000 in
theorem cNorm_ex (a : Nat) (ha : a < 18446744073709551616) (w : World) : Calls Tryz.prog 140 #[.int .u64 a] w (fun e w' => ∃ r : Nat, r < 18446744073709551616 ∧ e = .returned (.int .u64 r) ∧ Chg NoB w w') := by
  have HA := Lib.hid (wide_ex a ha)
  clear ha
  go_enter Tryz.func140, Tryz.ntmps140
  go_wp2_with fail
  with_reducible refine (HA.out _).mono ?_
  rintro e w1 ⟨r1, r2, rfl, d1⟩
  obtain ⟨x1, w3, h1, e1⟩ := fop_ex (P := Tryz.prog) .mul (.inr (.inr rfl)) 274 r1 r1 w1
  obtain ⟨x2, w4, h2, e2⟩ := fop_ex (P := Tryz.prog) .mul (.inr (.inr rfl)) 274 r2 r2 w3
  obtain ⟨x3, w5, h3, e3⟩ := fop_ex (P := Tryz.prog) .add (.inl rfl) 274 x1 x2 w4
  have HD2 := Lib.hid (((d1.trans e1).trans e2).trans e3)
  clear d1 e1 e2 e3
  go_wp2_with fail
  with_reducible refine (narrow64_ex x3 0 _).mono ?_
  rintro e w9 ⟨r, hr, rfl, d4⟩
  have HR := Lib.hid hr
  have HD3 := Lib.hid (HD2.out.trans d4)
  clear hr d4
  go_wp2_with fail
  go_ret
  exact ⟨r, HR.out, rfl, HD3.out.chg⟩
theorem neg_lt (b : Nat) (h : b < 4294967296) : Op.negFloat .f32 b < 4294967296 := by
  unfold Op.negFloat
  exact Nat.xor_lt_two_pow (n := 32) h (by decide)
set_option maxRecDepth 100000 in
theorem cConj_ex (a : Nat) (ha : a < 18446744073709551616) (w : World) : Calls Tryz.prog 139 #[.int .u64 a] w (fun e w' => ∃ r : Nat, r < 18446744073709551616 ∧ e = .returned (.int .u64 r) ∧ Chg NoB w w') := by
  have HA := Lib.hid (unpack_ex a ha)
  clear ha
  go_enter Tryz.func139, Tryz.ntmps139
  go_wp2_with fail
  with_reducible refine (HA.out _).mono ?_
  rintro e w1 ⟨r1, r2, h1, h2, rfl, rfl⟩
  have HP := Lib.hid (pack_ex r1 (Op.negFloat .f32 r2) h1 (neg_lt r2 h2))
  have h3 : ∀ w, (Op.unary .neg (.float .f32 r2)).run Tryz.prog w = .ok (.float .f32 (Op.negFloat .f32 r2)) w := fun w => rfl
  clear h1 h2
  go_wp2_with fail
  with_reducible refine (HP.out _).mono ?_
  rintro e w9 ⟨r, hr, rfl, rfl⟩
  have HR := Lib.hid hr
  clear hr
  go_wp2_with fail
  go_ret
  exact ⟨r, HR.out, rfl, Chg.refl NoB _⟩
end Go.Proofs.YtapmojfebljjnaaGreat
