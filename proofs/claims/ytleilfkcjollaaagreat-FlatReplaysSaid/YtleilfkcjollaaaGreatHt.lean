/- The reference's words: size, bytes, a word, a cut word; of any size. No condition. -/
import Derived.Test.YtleilfkcjollaaaGreatHr
import Derived.Test.YtleilfkcjollaaaGreatHl
set_option linter.unusedVariables false
set_option linter.unusedSimpArgs false
namespace Go.Proofs.YtleilfkcjollaaaGreat
open Go.RowKit Go.RR
set_option maxHeartbeats 1000000 in
set_option maxRecDepth 100000 in
theorem rSize_any (n : Int) (w : World) : Calls Tryz.prog 46 #[.int .i64 n] w (RetW (.bool (sizeB n)) fun w' => Chg NoB w w') := by
  have hB := Blk.new w #[.int .i64 1, .int .i64 2, .int .i64 4, .int .i64 8] 3
  have k0 : Chg NoB w (w.alloc (.cells #[.int .i64 1, .int .i64 2, .int .i64 4, .int .i64 8] 3)) := (Chg.refl NoB w).alloc _
  go_enter Tryz.func46, Tryz.ntmps46
  go_wp2_with fail
  generalize w.alloc (.cells #[.int .i64 1, .int .i64 2, .int .i64 4, .int .i64 8] 3) = w1 at *
  have HC := Lib.hid k0
  have g := hB.cell
  have gl := hB.lt
  clear k0
  go_loopg [7] 4 (fun k i wr => wr = w1 ∧ ((k = 4 ∧ i = .int .i64 0) ∨ (k = 3 ∧ i = .int .i64 1 ∧ n ≠ 1) ∨ (k = 2 ∧ i = .int .i64 2 ∧ n ≠ 1 ∧ n ≠ 2) ∨ (k = 1 ∧ i = .int .i64 3 ∧ n ≠ 1 ∧ n ≠ 2 ∧ n ≠ 4) ∨ (k = 0 ∧ i = .int .i64 4 ∧ n ≠ 1 ∧ n ≠ 2 ∧ n ≠ 4 ∧ n ≠ 8)))
  case atStart => exact ⟨rfl, .inl ⟨rfl, rfl⟩⟩
  case round =>
    obtain ⟨rfl, ⟨hk, rfl⟩ | ⟨hk, rfl, h1⟩ | ⟨hk, rfl, h1, h2⟩ | ⟨hk, rfl, h1, h2, h4⟩ | ⟨hk, rfl, h1, h2, h4, h8⟩⟩ := hrel
    · subst hk
      by_cases e : n = 1
      · subst e
        go_wp2_with fail
        go_ret
        exact ⟨rfl, HC.out⟩
      · have t1 : decide (n = 1) = false := decide_eq_false e
        have t2 : (n == 1) = false := by simpa using e
        have HE := Lib.hid e
        clear e
        go_wp2_with fail
        go_roundg 3
        case rel => exact ⟨rfl, (.inr (.inl ⟨rfl, rfl, HE.out⟩))⟩
        case measure => omega
    · subst hk
      have HP := Lib.hid (h1)
      clear h1
      by_cases e : n = 2
      · subst e
        go_wp2_with fail
        go_ret
        exact ⟨rfl, HC.out⟩
      · have t1 : decide (n = 2) = false := decide_eq_false e
        have t2 : (n == 2) = false := by simpa using e
        have HE := Lib.hid e
        clear e
        go_wp2_with fail
        go_roundg 2
        case rel => exact ⟨rfl, (.inr (.inr (.inl ⟨rfl, rfl, HP.out, HE.out⟩)))⟩
        case measure => omega
    · subst hk
      have HP := Lib.hid (And.intro h1 h2)
      clear h1 h2
      by_cases e : n = 4
      · subst e
        go_wp2_with fail
        go_ret
        exact ⟨rfl, HC.out⟩
      · have t1 : decide (n = 4) = false := decide_eq_false e
        have t2 : (n == 4) = false := by simpa using e
        have HE := Lib.hid e
        clear e
        go_wp2_with fail
        go_roundg 1
        case rel => exact ⟨rfl, (.inr (.inr (.inr (.inl ⟨rfl, rfl, HP.out.1, HP.out.2, HE.out⟩))))⟩
        case measure => omega
    · subst hk
      have HP := Lib.hid (And.intro h1 (And.intro h2 h4))
      clear h1 h2 h4
      by_cases e : n = 8
      · subst e
        go_wp2_with fail
        go_ret
        exact ⟨rfl, HC.out⟩
      · have t1 : decide (n = 8) = false := decide_eq_false e
        have t2 : (n == 8) = false := by simpa using e
        have HE := Lib.hid e
        clear e
        go_wp2_with fail
        go_roundg 0
        case rel => exact ⟨rfl, (.inr (.inr (.inr (.inr ⟨rfl, rfl, HP.out.1, HP.out.2.1, HP.out.2.2, HE.out⟩))))⟩
        case measure => omega
    · have HF : Hid (sizeB n = false) := Lib.hid (by unfold sizeB; rw [decide_eq_false h1, decide_eq_false h2, decide_eq_false h4, decide_eq_false h8]; rfl)
      clear h1 h2 h4 h8
      go_wp2_with fail
      go_ret
      exact ⟨by rw [HF.out]; rfl, HC.out⟩
set_option maxHeartbeats 1000000 in
set_option maxRecDepth 100000 in
theorem rBytesN_any (v s : Nat) (hs : sizeB s = true) (hv : v < 18446744073709551616) (w : World) : Calls Tryz.prog 47 #[.int .u64 v, .int .i64 s] w (RetSl fun bv w' => Own w' (fun k => w.heap.size ≤ k) 5 1 bv s (bc (bytesW v s)) ∧ Chg NoB w w') := by
  have HS : Hid (∀ w, Calls Tryz.prog 46 #[.int .i64 s] w (RetW (.bool true) fun w' => Chg NoB w w')) := Lib.hid (fun w => by have := rSize_any s w; rwa [hs] at this)
  have s8 : s ≤ 8 := by rcases sizeB_of hs with h | h | h | h <;> omega
  have HV := Lib.hid hv
  obtain ⟨i0, hi0, hz0, hz1, hz2⟩ := info_parts b_elem
  have HI := Lib.hid (And.intro hi0 (And.intro hz0 (And.intro hz1 hz2)))
  clear hi0 hz0 hz1 hz2 hv hs
  go_enter Tryz.func47, Tryz.ntmps47
  go_wp2_with fail
  go_loopg [0, 5, 6] s (fun k x b iv wr => ∃ i : Nat, i ≤ s ∧ k = s - i ∧ iv = .int .i64 i ∧ x = .int .u64 (v / 256 ^ i : Nat) ∧ Own wr (fun k => w.heap.size ≤ k) 5 1 b i (bc ((bytesW v s).take i)) ∧ Chg NoB w wr)
  case atStart => exact ⟨0, by omega, rfl, rfl, by rw [Nat.pow_zero, Nat.div_one], Own.nil _ _ _ _, Chg.refl NoB w⟩
  case round =>
    obtain ⟨i, h4, rfl, rfl, rfl, hO, hC⟩ := hrel
    obtain ⟨p, c, hb⟩ := hO.form
    subst hb
    have HO := Lib.hid hO
    have HC := Lib.hid hC
    clear hO hC
    by_cases hi : i < s
    · have t1 : decide ((i : Int) < s) = true := decide_eq_true (by omega)
      have H4 := Lib.hid h4
      have HIL := Lib.hid hi
      obtain ⟨y, hy⟩ : ∃ y, v / 256 ^ i = y := ⟨_, rfl⟩
      have HY := Lib.hid hy
      rw [hy]
      clear h4 hy hi
      go_upto_region 5 with (refine (HS.out _).mono ?_; rintro e w1 ⟨rfl, c1⟩)
      have oA := (HO.out.chg0 c1).chg0 ((Chg.refl NoB w1).alloc (.cells #[.int .u8 ((y : Int) % 256)] 5))
      have sB := (Own.fresh w1 [.int .u8 ((y : Int) % 256)] 5 1 rfl (by unfold maxLen; omega) : Own _ _ _ 1 _ _ _).sl
      have one1 : ∀ u ∈ [Value.int .u8 ((y : Int) % 256)], u.oneCell' = true := by simp [Value.oneCell']
      have b1 : i + 1 ≤ maxLen := by unfold maxLen; have := H4.out; omega
      have b2 : (i + 1) * 1 ≤ 140737488355328 := by have := H4.out; omega
      obtain ⟨hi0, hz0, hz1, hz2⟩ := HI.out
      have HC1 := Lib.hid ((HC.out.then0 c1).alloc (.cells #[.int .u8 ((y : Int) % 256)] 5))
      clear c1
      go_wp2_with (at_builtin; go_must (refine wpList_app rfl _ _ 48 rfl i0 _ 1 Tryz.underlying48 hi0 hz0 hz1 hz2 rfl rfl oA _ 1 _ rfl sB one1 b1 b2 ?_))
      intro v4 w4 o4 g4 _
      have HO4 := Lib.hid o4
      have HG4 := Lib.hid g4
      have q2 : IntKind.i64.wrap ((i : Int) + 1) = ((i + 1 : Nat) : Int) := IntWalk.i64_in _ (by have := H4.out; omega)
      clear oA sB one1 b1 b2 hi0 hz0 hz1 hz2 o4 g4
      go_wp2_with fail
      go_roundg (s - (i + 1))
      case rel =>
        refine ⟨i + 1, by have := HIL.out; omega, rfl, by go_num, ?_, ?_, ?_⟩
        · rw [Nat.pow_succ, ← Nat.div_div_eq_div_mul, HY.out]
          have hy : y < 18446744073709551616 := by rw [← HY.out]; exact Nat.lt_of_le_of_lt (Nat.div_le_self _ _) HV.out
          have : IntKind.u64.wrap ((y : Int) / 256) = ((y / 256 : Nat) : Int) := by rw [IntKind.wrap_u64]; omega
          rw [this]
        · have e : bc ((bytesW v s).take (i + 1)) = bc ((bytesW v s).take i) ++ [Value.int .u8 ((y : Int) % 256)] := by
            rw [bytesW_take v s i HIL.out, HY.out]
            unfold bc
            rw [List.map_append]
            rfl
          rw [e]
          refine HO4.out.mono fun k hk => ?_
          rcases hk with hk | hk
          · exact (HO.out.ownBlock k hk).1
          · have := HC1.out.size
            rw [World.size_alloc] at this
            omega
        · refine HC1.out.trans (grown_chg (S := fun k => (Value.slice p i c).ownBlock = some k) HG4.out fun k hk => hk) fun k hk e => ?_
          have := (HO.out.ownBlock k e).1
          omega
      case measure => have := HIL.out; omega
    · have t1 : decide ((i : Int) < s) = false := decide_eq_false (by omega)
      have e4 : i = s := by omega
      subst e4
      clear hi h4
      go_wp2_with (refine (HS.out _).mono ?_; rintro e w1 ⟨rfl, c1⟩)
      go_ret
      exact ⟨_, rfl, by have := HO.out.chg0 c1; rwa [List.take_of_length_le (by rw [bytesW_len]; omega)] at this, HC.out.then0 c1⟩
theorem getW_more (f : By) : ∀ (n a : Nat), getW f a (n + 1) = getW f a n + f (a + n) * 256 ^ n
  | 0, a => by
    show f a + 256 * 0 = 0 + f (a + 0) * 256 ^ 0
    simp
  | n + 1, a => by
    have h := getW_more f n (a + 1)
    show f a + 256 * getW f (a + 1) (n + 1) = (f a + 256 * getW f (a + 1) n) + f (a + (n + 1)) * 256 ^ (n + 1)
    rw [h, show a + 1 + n = a + (n + 1) by omega, Nat.pow_succ, Nat.mul_add, ← Nat.add_assoc]
    congr 1
    rw [Nat.mul_comm 256, Nat.mul_assoc]
set_option maxHeartbeats 2000000 in
set_option maxRecDepth 100000 in
theorem rGetN_any {w : World} {S : Nat → Prop} {v : Value} {F : By} (hF : ByOk F) (s : Nat) (hsz : sizeB s = true) (hs : Sl w S 1 v s (bcells F s)) : Calls Tryz.prog 78 #[v, .int .i64 0, .int .i64 s] w (RetW (.tuple #[.int .u64 (getW F 0 s), .bool true]) fun w' => Chg NoB w w') := by
  have HS : Hid (∀ w, Calls Tryz.prog 46 #[.int .i64 s] w (RetW (.bool true) fun w' => Chg NoB w w')) := Lib.hid (fun w => by have := rSize_any s w; rwa [hsz] at this)
  have s8 : 1 ≤ s ∧ s ≤ 8 := by rcases sizeB_of hsz with h | h | h | h <;> omega
  obtain ⟨-, p, cap, rfl, hcap, hsp⟩ := hs
  obtain ⟨g, off, rfl, -, hg, hc⟩ := hsp (by omega)
  have hc' : ∀ w', Chg NoB w w' → ∀ j, j < s → w'.cell? ⟨g, off + j, none⟩ = some (.int .u8 (F j)) := fun w' k j hj => k.cell (hc j _ (bcells_get hj)) id
  have hg' : ∀ w', Chg NoB w w' → g < w'.heap.size := fun w' k => Nat.lt_of_lt_of_le hg k.size
  have HCc := Lib.hid hc'
  have HG := Lib.hid hg'
  have HF := Lib.hid hF
  have t2 : decide ((s : Int) < 0) = false := decide_eq_false (by omega)
  have t3 : decide ((s : Int) < s) = false := decide_eq_false (by omega)
  have H8 := Lib.hid s8
  have s8b := s8.2
  have q0 : IntKind.i64.wrap (s : Int) = (s : Int) := IntWalk.i64_in _ (by omega)
  clear hsp hc hc' hg' hF hg hsz s8
  go_enter Tryz.func78, Tryz.ntmps78
  go_wp2_with fail
  refine (HS.out _).mono ?_
  rintro e w1 ⟨rfl, c1⟩
  have HC1 := Lib.hid c1
  clear c1
  go_wp2_with fail
  go_loopg [8, 9, 10] s (fun k v f iv wr => wr = w1 ∧ ∃ (i y : Nat), i + k = s ∧ iv = .int .i64 i ∧ v = .int .u64 (getW F 0 i) ∧ f = .int .u64 y ∧ (i < s → y = 256 ^ i))
  case atStart => exact ⟨rfl, 0, 1, by omega, rfl, rfl, rfl, fun _ => rfl⟩
  case round =>
    obtain ⟨rfl, i, y, hik, rfl, rfl, rfl, hy⟩ := hrel
    by_cases hi : i < s
    · have hy := hy hi
      have t4 : decide ((i : Int) < s) = true := decide_eq_true (by omega)
      have b1 : F i < 256 := HF.out _
      have hpl : y ≤ 72057594037927936 := by
        rw [hy]
        exact Nat.le_trans (Nat.pow_le_pow_right (by omega) (by have := H8.out; omega : i ≤ 7)) (by decide)
      have hgl : getW F 0 i < y := by rw [hy]; exact getW_lt HF.out i 0
      have hsn : getW F 0 (i + 1) = getW F 0 i + F i * y := by rw [hy]; exact by have := getW_more F i 0; rwa [Nat.zero_add] at this
      have hml : F i * y ≤ 255 * y := Nat.mul_le_mul_right _ (by omega)
      have hny : i + 1 < s → y * 256 % 18446744073709551616 = 256 ^ (i + 1) := fun h => by
        rw [hy, Nat.pow_succ]
        refine Nat.mod_eq_of_lt ?_
        rw [← Nat.pow_succ]
        exact Nat.lt_of_le_of_lt (Nat.pow_le_pow_right (by omega) (by have := H8.out; omega : i + 1 ≤ 7)) (by decide)
      obtain ⟨z, hz⟩ : ∃ z, F i * y = z := ⟨_, rfl⟩
      obtain ⟨m, hm⟩ : ∃ m, getW F 0 i = m := ⟨_, rfl⟩
      obtain ⟨d, hd⟩ : ∃ d, F i = d := ⟨_, rfl⟩
      have x0 := HCc.out _ HC1.out i hi
      have xl := HG.out _ HC1.out
      rw [hd] at x0 hz b1 hml
      rw [hm] at hgl hsn
      rw [hd, hz] at hsn
      rw [hz] at hml
      have q1 : IntKind.u64.wrap ((d : Int) * (y : Int)) = (z : Int) := by
        rw [← hz, IntKind.wrap_u64, ← Int.natCast_mul, hz]
        omega
      have q2 : IntKind.u64.wrap ((m : Int) + (z : Int)) = ((m + z : Nat) : Int) := by rw [IntKind.wrap_u64]; omega
      have q3 : IntKind.u64.wrap ((y : Int) * 256) = ((y * 256 % 18446744073709551616 : Nat) : Int) := by rw [IntKind.wrap_u64]; omega
      have q4 : IntKind.i64.wrap ((i : Int) + 1) = ((i + 1 : Nat) : Int) := IntWalk.i64_in _ (by omega)
      have q5 : IntKind.i64.wrap (i : Int) = (i : Int) := IntWalk.i64_in _ (by have := H8.out; omega)
      have q6 : ((i : Nat) : Int).toNat = i := Int.toNat_natCast _
      have q9 : ((0 : Int) + (i : Int)) = (i : Int) := Int.zero_add _
      have q7 : ((i : Nat) : Int) < s := by omega
      have HSN := Lib.hid hsn
      have HMM := Lib.hid hm
      have q8 : IntKind.u64.wrap (d : Int) = (d : Int) := by rw [IntKind.wrap_u64]; omega
      have HNY := Lib.hid hny
      have HIK := Lib.hid hik
      have HI := Lib.hid hi
      clear hy hpl hgl hsn hml hny hz hm hd hik hi b1 t2 t3
      go_wp2_with fail
      go_roundg (s - (i + 1))
      case rel => exact ⟨rfl, i + 1, _, by have := HI.out; omega, by go_num, by rw [HSN.out, HMM.out, q2], rfl, HNY.out⟩
      case measure => have := HI.out; have := HIK.out; omega
    · have e8 : i = s := by omega
      subst e8
      clear hi hik hy
      go_wp2_with fail
      go_ret2
      exact ⟨rfl, HC1.out⟩
theorem bytesN_cells (v s : Nat) : bc (bytesW v s) = bcells (putW (fun _ => 0) 0 s v) s := (bytesW_cells v s).symm
set_option maxHeartbeats 1000000 in
set_option maxRecDepth 100000 in
theorem rCut_any (v s : Nat) (hs : sizeB s = true) (hv : v < 18446744073709551616) (w : World) : Calls Tryz.prog 48 #[.int .u64 v, .int .i64 s] w (RetW (.int .u64 (v % 256 ^ s : Nat)) fun w' => Chg NoB w w') := by
  have HS : Hid (∀ w, Calls Tryz.prog 46 #[.int .i64 s] w (RetW (.bool true) fun w' => Chg NoB w w')) := Lib.hid (fun w => by have := rSize_any s w; rwa [hs] at this)
  have HB := Lib.hid (rBytesN_any v s hs hv)
  have HZ := Lib.hid hs
  clear hs hv
  go_enter Tryz.func48, Tryz.ntmps48
  go_wp2_with fail
  refine (HS.out _).mono ?_
  rintro e w1 ⟨rfl, c1⟩
  go_wp2_with fail
  refine (HB.out _).mono ?_
  rintro e w2 ⟨bv, rfl, hO, c2⟩
  have hG := rGetN_any (putW_ok (fun _ => by show 0 < 256; omega) 0 s v) s HZ.out (by have := hO.sl; rw [bytesN_cells] at this; exact this)
  rw [getW_put] at hG
  have HG := Lib.hid hG
  have HC := Lib.hid (c1.step c2)
  clear hG c1 c2 hO
  go_wp2_with fail
  refine HG.out.mono ?_
  rintro e w3 ⟨rfl, c3⟩
  have HC3 := Lib.hid (HC.out.step c3)
  clear c3
  go_wp2_with fail
  go_ret
  exact ⟨rfl, HC3.out⟩
end Go.Proofs.YtleilfkcjollaaaGreat
