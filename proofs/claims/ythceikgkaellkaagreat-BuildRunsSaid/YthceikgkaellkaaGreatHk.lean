/- The reference's words: Size, Bytes; its instructions' words: Put. No condition. -/
import Derived.Test.YthceikgkaellkaaGreatHj
import Derived.Test.YthceikgkaellkaaGreatHi
set_option linter.unusedVariables false
set_option linter.unusedSimpArgs false
namespace Go.Proofs.YthceikgkaellkaaGreat
open Go.RowKit Go.RR
def bc (d : List Nat) : List Value := d.map fun x : Nat => .int .u8 x
theorem bc_one (d : List Nat) : ∀ u ∈ bc d, u.oneCell' = true := by unfold bc; simp [Value.oneCell']
theorem bc_len (d : List Nat) : (bc d).length = d.length := List.length_map ..
set_option maxHeartbeats 1000000 in
set_option maxRecDepth 100000 in
theorem rSize4 (w : World) : Calls Tryz.prog 60 #[.int .i64 4] w (RetW (.bool true) fun w' => Chg NoB w w') := by
  have hB := Blk.new w #[.int .i64 1, .int .i64 2, .int .i64 4, .int .i64 8] 3
  have k0 : Chg NoB w (w.alloc (.cells #[.int .i64 1, .int .i64 2, .int .i64 4, .int .i64 8] 3)) := (Chg.refl NoB w).alloc _
  go_enter Tryz.func60, Tryz.ntmps60
  go_wp2_with fail
  generalize w.alloc (.cells #[.int .i64 1, .int .i64 2, .int .i64 4, .int .i64 8] 3) = w1 at *
  have HC := Lib.hid k0
  have g := hB.cell
  have gl := hB.lt
  clear k0
  go_loopg [7] 2 (fun k i wr => wr = w1 ∧ ((k = 2 ∧ i = .int .i64 0) ∨ (k = 1 ∧ i = .int .i64 1) ∨ (k = 0 ∧ i = .int .i64 2)))
  case atStart => exact ⟨rfl, .inl ⟨rfl, rfl⟩⟩
  case round =>
    obtain ⟨rfl, ⟨hk, rfl⟩ | ⟨hk, rfl⟩ | ⟨hk, rfl⟩⟩ := hrel
    · subst hk
      go_wp2_with fail
      go_roundg 1
      case rel => exact ⟨rfl, .inr (.inl ⟨rfl, rfl⟩)⟩
      case measure => omega
    · subst hk
      go_wp2_with fail
      go_roundg 0
      case rel => exact ⟨rfl, .inr (.inr ⟨rfl, rfl⟩)⟩
      case measure => omega
    · go_wp2_with fail
      go_ret
      exact ⟨rfl, HC.out⟩
theorem bytesW_take (v : Nat) : ∀ (n i : Nat), i < n → (bytesW v n).take (i + 1) = (bytesW v n).take i ++ [v / 256 ^ i % 256] := fun n i h => by
  rw [List.take_add_one, bytesW_get n v i h]
  rfl
set_option maxHeartbeats 1000000 in
set_option maxRecDepth 100000 in
theorem rBytes_any (v : Nat) (hv : v < 4294967296) (w : World) : Calls Tryz.prog 46 #[.int .u64 v, .int .i64 4] w (RetSl fun bv w' => Own w' (fun k => w.heap.size ≤ k) 5 1 bv 4 (bc (bytesW v 4)) ∧ Chg NoB w w') := by
  have HS := Lib.hid rSize4
  have HV := Lib.hid hv
  obtain ⟨i0, hi0, hz0, hz1, hz2⟩ := info_parts b_elem
  have HI := Lib.hid (And.intro hi0 (And.intro hz0 (And.intro hz1 hz2)))
  clear hi0 hz0 hz1 hz2 hv
  go_enter Tryz.func46, Tryz.ntmps46
  go_wp2_with fail
  go_loopg [0, 5, 6] 4 (fun k x b iv wr => ∃ i : Nat, i ≤ 4 ∧ k = 4 - i ∧ iv = .int .i64 i ∧ x = .int .u64 (v / 256 ^ i : Nat) ∧ Own wr (fun k => w.heap.size ≤ k) 5 1 b i (bc ((bytesW v 4).take i)) ∧ Chg NoB w wr)
  case atStart => exact ⟨0, by omega, rfl, rfl, by rw [Nat.pow_zero, Nat.div_one], Own.nil _ _ _ _, Chg.refl NoB w⟩
  case round =>
    obtain ⟨i, h4, rfl, rfl, rfl, hO, hC⟩ := hrel
    obtain ⟨p, c, hb⟩ := hO.form
    subst hb
    have HO := Lib.hid hO
    have HC := Lib.hid hC
    clear hO hC
    by_cases hi : i < 4
    · have t1 : decide ((i : Int) < 4) = true := decide_eq_true (by omega)
      have H4 := Lib.hid h4
      have HIL := Lib.hid hi
      obtain ⟨y, hy⟩ : ∃ y, v / 256 ^ i = y := ⟨_, rfl⟩
      have HY := Lib.hid hy
      rw [hy]
      clear h4 hy hi
      go_upto_region 5 with (refine (HS.out _).mono ?_; rintro e w1 ⟨rfl, c1⟩)
      have oA := (HO.out.chg0 c1).chg0 ((Chg.refl NoB w1).alloc (.cells #[.int .u8 ((y : Int) % 256)] 5))
      have sB := (Own.fresh w1 [.int .u8 ((y : Int) % 256)] 5 1 rfl (by unfold maxLen; omega) : Own _ _ _ 1 _ _ _).sl
      have one1 : ∀ u ∈ [Value.int .u8 ((y : Int) % 256)], u.oneCell' = true := by simp [Value.oneCell']
      have b1 : i + 1 ≤ maxLen := by unfold maxLen; have := H4.out; omega
      have b2 : (i + 1) * 1 ≤ 140737488355328 := by have := H4.out; omega
      obtain ⟨hi0, hz0, hz1, hz2⟩ := HI.out
      have HC1 := Lib.hid ((HC.out.then0 c1).alloc (.cells #[.int .u8 ((y : Int) % 256)] 5))
      clear c1
      go_wp2_with (at_builtin; go_must (refine wpList_app rfl _ _ 59 rfl i0 _ 1 Tryz.underlying59 hi0 hz0 hz1 hz2 rfl rfl oA _ 1 _ rfl sB one1 b1 b2 ?_))
      intro v4 w4 o4 g4 _
      have HO4 := Lib.hid o4
      have HG4 := Lib.hid g4
      have q2 : IntKind.i64.wrap ((i : Int) + 1) = ((i + 1 : Nat) : Int) := IntWalk.i64_in _ (by have := H4.out; omega)
      clear oA sB one1 b1 b2 hi0 hz0 hz1 hz2 o4 g4
      go_wp2_with fail
      go_roundg (4 - (i + 1))
      case rel =>
        refine ⟨i + 1, by have := HIL.out; omega, rfl, by go_num, ?_, ?_, ?_⟩
        · rw [Nat.pow_succ, ← Nat.div_div_eq_div_mul, HY.out]
          have hy : y < 4294967296 := by rw [← HY.out]; exact Nat.lt_of_le_of_lt (Nat.div_le_self _ _) HV.out
          have : IntKind.u64.wrap ((y : Int) / 256) = ((y / 256 : Nat) : Int) := by rw [IntKind.wrap_u64]; omega
          rw [this]
        · have e : bc ((bytesW v 4).take (i + 1)) = bc ((bytesW v 4).take i) ++ [Value.int .u8 ((y : Int) % 256)] := by
            rw [bytesW_take v 4 i HIL.out, HY.out]
            unfold bc
            rw [List.map_append]
            rfl
          rw [e]
          refine HO4.out.mono fun k hk => ?_
          rcases hk with hk | hk
          · exact (HO.out.ownBlock k hk).1
          · have := HC1.out.size
            rw [World.size_alloc] at this
            omega
        · refine HC1.out.trans (grown_chg (S := fun k => (Value.slice p i c).ownBlock = some k) HG4.out fun k hk => hk) fun k hk e => ?_
          have := (HO.out.ownBlock k e).1
          omega
      case measure => have := HIL.out; omega
    · have t1 : decide ((i : Int) < 4) = false := decide_eq_false (by omega)
      have e4 : i = 4 := by omega
      subst e4
      clear hi h4
      go_wp2_with (refine (HS.out _).mono ?_; rintro e w1 ⟨rfl, c1⟩)
      go_ret
      exact ⟨_, rfl, HO.out.chg0 c1, HC.out.then0 c1⟩
set_option maxHeartbeats 1000000 in
set_option maxRecDepth 100000 in
theorem rPut_any (i : In) (hi : i.Ok) (w : World) : Calls Tryz.prog 47 #[.agg #[.int .i64 i.op, .int .i64 i.rd, .int .i64 i.rs, .int .i64 i.rt, .int .i64 i.im]] w (RetW (.int .u32 (instW i)) fun w' => Chg NoB w w') := by
  have hw := instW_lt hi
  obtain ⟨o, rd, rs, rt, im⟩ := i
  have h0 := hi.o0; have h1 := hi.o1; have h2 := hi.d0; have h3 := hi.d1; have h4 := hi.s0; have h5 := hi.s1; have h6 := hi.t0; have h7 := hi.t1; have h8 := hi.i0; have h9 := hi.i1
  dsimp only at h0 h1 h2 h3 h4 h5 h6 h7 h8 h9
  have e : ∃ a b c d m : Nat, o = a ∧ rd = b ∧ rs = c ∧ rt = d ∧ (im % 4096).toNat = m ∧ a ≤ 34 ∧ b ≤ 15 ∧ c ≤ 15 ∧ d ≤ 15 ∧ m < 4096 := ⟨o.toNat, rd.toNat, rs.toNat, rt.toNat, _, by omega, by omega, by omega, by omega, rfl, by omega, by omega, by omega, by omega, by omega⟩
  obtain ⟨a, b, c, d, m, rfl, rfl, rfl, rfl, hm, ha, hb, hc, hd, hmm⟩ := e
  have hw : instW ⟨a, b, c, d, im⟩ = a + b * 256 + c * 4096 + d * 65536 + m * 1048576 := by
    unfold instW
    dsimp only
    rw [hm]
    simp only [Int.toNat_natCast]
  rw [hw]
  go_enter Tryz.func47, Tryz.ntmps47
  by_cases hn : im < 0
  · have t1 : decide (im < 0) = true := decide_eq_true hn
    go_wp2_with fail
    go_ret
    have ev : (a : Int) + 256 * b + 4096 * c + 65536 * d + 1048576 * (im + 4096) = ((a + b * 256 + c * 4096 + d * 65536 + m * 1048576 : Nat) : Int) := by omega
    exact ⟨congrArg (fun z => Ending.returned (Value.int .u32 z)) ev, (Chg.refl NoB w).alloc _⟩
  · have t1 : decide (im < 0) = false := decide_eq_false hn
    go_wp2_with fail
    go_ret
    have ev : (a : Int) + 256 * b + 4096 * c + 65536 * d + 1048576 * im = ((a + b * 256 + c * 4096 + d * 65536 + m * 1048576 : Nat) : Int) := by omega
    exact ⟨congrArg (fun z => Ending.returned (Value.int .u32 z)) ev, (Chg.refl NoB w).alloc _⟩
end Go.Proofs.YthceikgkaellkaaGreat
