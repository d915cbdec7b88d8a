/- Words of bytes: sizes, reading, laying, cutting, signs. No condition. Frames, tables and spaces as plain functions. Plain, no program. No condition. -/
import Derived.Test.YtdjaeoeejcmhdaaGreatDoorProg
import Derived.Test.YtdjaeoeejcmhdaaGreatDoorGa
import Derived.Test.YtdjaeoeejcmhdaaGreatDoorGb
set_option linter.unusedVariables false
set_option linter.unusedSimpArgs false
namespace Go.Proofs.YtdjaeoeejcmhdaaGreatDoor
open Go.RowKit Go.RR



theorem size_cases (n : Int) : n = 1 ∨ n = 2 ∨ n = 4 ∨ n = 8 ∨ ((n == 1) = false ∧ (n == 2) = false ∧ (n == 4) = false ∧ (n == 8) = false ∧ sizeB n = false) := by
  by_cases h1 : n = 1
  · exact .inl h1
  by_cases h2 : n = 2
  · exact .inr (.inl h2)
  by_cases h4 : n = 4
  · exact .inr (.inr (.inl h4))
  by_cases h8 : n = 8
  · exact .inr (.inr (.inr (.inl h8)))
  refine .inr (.inr (.inr (.inr ⟨beq_eq_false_iff_ne.2 h1, beq_eq_false_iff_ne.2 h2, beq_eq_false_iff_ne.2 h4, beq_eq_false_iff_ne.2 h8, ?_⟩)))
  simp [sizeB, h1, h2, h4, h8]
set_option maxRecDepth 100000 in
theorem size_any (n : Int) (w : World) : Calls Tryz.prog 96 #[.int .i64 n] w (RetW (.bool (sizeB n)) fun w' => w' = w) := by
  rcases size_cases n with rfl | rfl | rfl | rfl | ⟨h1, h2, h4, h8, hs⟩
  all_goals
    go_enter Tryz.func96, Tryz.ntmps96
    go_wp2_with fail
    go_ret
    first | exact ⟨rfl, rfl⟩ | exact ⟨ret_bool hs.symm, rfl⟩
def thereB (n at' size : Int) : Bool := sizeB size && (decide (0 ≤ at') && (decide (at' ≤ n) && decide (size ≤ n - at')))
set_option maxRecDepth 100000 in
theorem there_any (p : Option Addr) (n cap : Nat) (at' size : Int) (w : World) (hn : (n : Int) ≤ 9223372036854775807) (h1 : -9223372036854775808 ≤ at') (h2 : at' ≤ 9223372036854775807) :
    Calls Tryz.prog 105 #[.slice p n cap, .int .i64 at', .int .i64 size] w (RetW (.bool (thereB n at' size)) fun w' => w' = w) := by
  obtain ⟨b0, hb0⟩ : ∃ b, sizeB size = b := ⟨_, rfl⟩
  have HB0 := Lib.hid hb0
  have H0 := Lib.hid (size_any size w)
  rw [hb0] at H0
  have HT : Hid (thereB n at' size = (b0 && (decide (0 ≤ at') && (decide (at' ≤ n) && decide (size ≤ n - at'))))) := Lib.hid (by unfold thereB; rw [hb0])
  clear hb0
  cases b0
  · go_enter Tryz.func105, Tryz.ntmps105
    go_wp2_with fail
    with_reducible refine H0.out.mono ?_
    rintro e w1 ⟨rfl, hw1⟩
    subst hw1
    go_wp2_with fail
    go_ret
    exact ⟨ret_bool HT.out.symm, rfl⟩
  · by_cases c1 : 0 ≤ at'
    · by_cases c2 : at' ≤ n
      · have d1 : decide ((0 : Int) ≤ at') = true := decide_eq_true c1
        have d2 : decide (at' ≤ n) = true := decide_eq_true c2
        have hw : -9223372036854775808 ≤ (n : Int) - at' ∧ (n : Int) - at' ≤ 9223372036854775807 := by omega
        obtain ⟨b3, hb3⟩ : ∃ b, decide (size ≤ n - at') = b := ⟨_, rfl⟩
        have HT2 : Hid (thereB n at' size = b3) := Lib.hid (by rw [HT.out, d1, d2, hb3]; rfl)
        clear c1 c2
        go_enter Tryz.func105, Tryz.ntmps105
        go_wp2_with fail
        with_reducible refine H0.out.mono ?_
        rintro e w1 ⟨rfl, hw1⟩
        subst hw1
        cases b3
        all_goals
          go_wp2_with fail
          go_ret
          exact ⟨ret_bool HT2.out.symm, rfl⟩
      · have d1 : decide ((0 : Int) ≤ at') = true := decide_eq_true c1
        have d2 : decide (at' ≤ n) = false := decide_eq_false c2
        have HT2 : Hid (thereB n at' size = false) := Lib.hid (by rw [HT.out, d1, d2]; rfl)
        clear c1 c2
        go_enter Tryz.func105, Tryz.ntmps105
        go_wp2_with fail
        with_reducible refine H0.out.mono ?_
        rintro e w1 ⟨rfl, hw1⟩
        subst hw1
        go_wp2_with fail
        go_ret
        exact ⟨ret_bool HT2.out.symm, rfl⟩
    · have d1 : decide ((0 : Int) ≤ at') = false := decide_eq_false c1
      have HT2 : Hid (thereB n at' size = false) := Lib.hid (by rw [HT.out, d1]; rfl)
      clear c1
      go_enter Tryz.func105, Tryz.ntmps105
      go_wp2_with fail
      with_reducible refine H0.out.mono ?_
      rintro e w1 ⟨rfl, hw1⟩
      subst hw1
      go_wp2_with fail
      go_ret
      exact ⟨ret_bool HT2.out.symm, rfl⟩
theorem and_mask (v k : Nat) (hv : v < 18446744073709551616) (hk : k ≤ 64) : bits .and .u64 (v : Int) ((2 ^ k - 1 : Nat) : Int) = ((v % 2 ^ k : Nat) : Int) := by
  have hp : 2 ^ k - 1 < 18446744073709551616 := by
    have : 2 ^ k ≤ 2 ^ 64 := Nat.pow_le_pow_right (by omega) hk
    have h64 : (2 : Nat) ^ 64 = 18446744073709551616 := rfl
    omega
  rw [u64_and_nat v _ hv hp, Nat.and_two_pow_sub_one_eq_mod]
set_option maxRecDepth 100000 in
theorem aligned_any (at' : Nat) (size : Int) (w : World) (ha : at' < 18446744073709551616) : Calls Tryz.prog 53 #[.int .u64 at', .int .i64 size] w (RetW (.bool (alignedB at' size)) fun w' => w' = w) := by
  have H0 := Lib.hid (size_any size w)
  rcases size_cases size with rfl | rfl | rfl | rfl | ⟨h1, h2, h4, h8, hs⟩
  · have m1 : bits .and .u64 (at' : Int) 0 = ((at' % 2 ^ 0 : Nat) : Int) := and_mask at' 0 ha (by omega)
    rw [Nat.pow_zero, Nat.mod_one] at m1
    have HT : Hid (alignedB at' 1 = true) := Lib.hid (by unfold alignedB; rw [show (1 : Int).toNat = 1 from rfl, Nat.mod_one]; rfl)
    go_enter Tryz.func53, Tryz.ntmps53
    go_wp2_with fail
    with_reducible refine H0.out.mono ?_
    rintro e w1 ⟨rfl, hw1⟩
    subst hw1
    go_wp2_with fail
    go_ret
    exact ⟨ret_bool HT.out.symm, rfl⟩
  · have m1 : bits .and .u64 (at' : Int) 1 = ((at' % 2 ^ 1 : Nat) : Int) := and_mask at' 1 ha (by omega)
    simp only [Nat.reducePow] at m1
    obtain ⟨b, hb⟩ : ∃ b, decide (at' % 2 = 0) = b := ⟨_, rfl⟩
    have HT : Hid (alignedB at' 2 = b) := Lib.hid (by rw [← hb]; rfl)
    have t1 : ((at' : Int) % 2 == 0) = b := by rw [← hb, Bool.eq_iff_iff, beq_iff_eq, decide_eq_true_iff]; omega
    clear hb
    go_enter Tryz.func53, Tryz.ntmps53
    go_wp2_with fail
    with_reducible refine H0.out.mono ?_
    rintro e w1 ⟨rfl, hw1⟩
    subst hw1
    go_wp2_with fail
    go_ret
    exact ⟨ret_bool HT.out.symm, rfl⟩
  · have m1 : bits .and .u64 (at' : Int) 3 = ((at' % 2 ^ 2 : Nat) : Int) := and_mask at' 2 ha (by omega)
    simp only [Nat.reducePow] at m1
    obtain ⟨b, hb⟩ : ∃ b, decide (at' % 4 = 0) = b := ⟨_, rfl⟩
    have HT : Hid (alignedB at' 4 = b) := Lib.hid (by rw [← hb]; rfl)
    have t1 : ((at' : Int) % 4 == 0) = b := by rw [← hb, Bool.eq_iff_iff, beq_iff_eq, decide_eq_true_iff]; omega
    clear hb
    go_enter Tryz.func53, Tryz.ntmps53
    go_wp2_with fail
    with_reducible refine H0.out.mono ?_
    rintro e w1 ⟨rfl, hw1⟩
    subst hw1
    go_wp2_with fail
    go_ret
    exact ⟨ret_bool HT.out.symm, rfl⟩
  · have m1 : bits .and .u64 (at' : Int) 7 = ((at' % 2 ^ 3 : Nat) : Int) := and_mask at' 3 ha (by omega)
    simp only [Nat.reducePow] at m1
    obtain ⟨b, hb⟩ : ∃ b, decide (at' % 8 = 0) = b := ⟨_, rfl⟩
    have HT : Hid (alignedB at' 8 = b) := Lib.hid (by rw [← hb]; rfl)
    have t1 : ((at' : Int) % 8 == 0) = b := by rw [← hb, Bool.eq_iff_iff, beq_iff_eq, decide_eq_true_iff]; omega
    clear hb
    go_enter Tryz.func53, Tryz.ntmps53
    go_wp2_with fail
    with_reducible refine H0.out.mono ?_
    rintro e w1 ⟨rfl, hw1⟩
    subst hw1
    go_wp2_with fail
    go_ret
    exact ⟨ret_bool HT.out.symm, rfl⟩
  · have HT : Hid (alignedB at' size = false) := Lib.hid (by unfold alignedB; rw [hs]; rfl)
    rw [hs] at H0
    go_enter Tryz.func53, Tryz.ntmps53
    go_wp2_with fail
    with_reducible refine H0.out.mono ?_
    rintro e w1 ⟨rfl, hw1⟩
    subst hw1
    go_wp2_with fail
    go_ret
    exact ⟨ret_bool HT.out.symm, rfl⟩
theorem or_byte (v b : Nat) (hv : v < 72057594037927936) (hb : b < 256) : bits .or .u64 ((v : Int) * 256) (b : Int) = ((v * 256 + b : Nat) : Int) := by
  rw [show (v : Int) * 256 = ((v * 256 : Nat) : Int) by omega, u64_or_nat _ b (by omega) (by omega), nat_join 8 (v * 256) b (by simp) (by simpa using hb)]
theorem pow256 {s k : Nat} (hs : s ≤ 8) (hk : k < s) : 256 ^ (s - (k + 1)) ≤ 72057594037927936 := by
  have : 256 ^ (s - (k + 1)) ≤ 256 ^ 7 := Nat.pow_le_pow_right (by omega) (by omega)
  simpa using this
set_option maxHeartbeats 4000000 in
set_option maxRecDepth 100000 in
theorem get_any (S : Nat → Prop) (g : By) (hg : ByOk g) (v : Value) (n at' s : Nat) (w : World) (h : Sl w S 1 v n (bcells g n)) (hn : n ≤ 1000000) (hs : sizeB s = true) (ha : at' + s ≤ n) :
    Calls Tryz.prog 145 #[v, .int .i64 at', .int .i64 s] w (RetW (.tuple #[.int .u64 (getW g at' s), .bool true]) fun w' => w' = w) := by
  obtain ⟨-, p, cap, rfl, hcap, hsp⟩ := h
  have hs8 : 1 ≤ s ∧ s ≤ 8 := by rcases sizeB_of hs with h | h | h | h <;> omega
  obtain ⟨gb, off, rfl, -, hgb, hc⟩ := hsp (by omega)
  have H0 := Lib.hid (there_any (some ⟨gb, off, none⟩) n cap at' s w (by omega) (by omega) (by omega))
  rw [show thereB n at' s = true by unfold thereB; rw [hs, decide_eq_true (by omega), decide_eq_true (by omega), decide_eq_true (by omega)]; rfl] at H0
  have HC := Lib.hid hc
  have HG := Lib.hid hg
  clear hs hsp hc hg
  go_enter Tryz.func145, Tryz.ntmps145
  go_wp2_with fail
  with_reducible refine H0.out.mono ?_
  rintro e w1 ⟨rfl, hw1⟩
  subst hw1
  go_wp2_with fail
  go_loopg [8, 9] s (fun m vv iv wr => m ≤ s ∧ iv = .int .i64 ((m : Int) - 1) ∧ vv = .int .u64 (getW g (at' + m) (s - m)) ∧ wr = w1)
  case atStart => exact ⟨Nat.le_refl _, by go_num, by rw [Nat.sub_self]; rfl, rfl⟩
  case round =>
    obtain ⟨hm, rfl, rfl, rfl⟩ := hrel
    rename Nat => m
    cases m with
    | zero =>
      have q0 : decide ((0 : Int) ≤ ((0 : Nat) : Int) - 1) = false := by decide
      go_wp2_with fail
      go_ret2
      exact ⟨rfl, rfl⟩
    | succ k =>
      have hx : wr.cell? ⟨gb, off + (at' + k), none⟩ = some (.int .u8 (g (at' + k))) := HC.out _ _ (bcells_get (by omega))
      have hB := HG.out (at' + k)
      have hV := Nat.lt_of_lt_of_le (getW_lt HG.out (s - (k + 1)) (at' + (k + 1))) (pow256 hs8.2 (by omega))
      have hst := getW_step g (at' + k) (s - (k + 1))
      rw [show s - (k + 1) + 1 = s - k by omega, show at' + k + 1 = at' + (k + 1) by omega] at hst
      have HST := Lib.hid hst
      obtain ⟨V, hVV⟩ : ∃ V, getW g (at' + (k + 1)) (s - (k + 1)) = V := ⟨_, rfl⟩
      obtain ⟨B, hBB⟩ : ∃ B, g (at' + k) = B := ⟨_, rfl⟩
      rw [hVV] at HST hV ⊢
      rw [hBB] at HST hB hx
      have o1 := or_byte V B hV hB
      have k0 : (0 : Int) ≤ k := by omega
      clear hst hVV hBB
      go_wp2_with fail
      go_roundg k
      case measure => omega
      case rel => exact ⟨by omega, rfl, by rw [HST.out]; exact congrArg (Value.int .u64) (by omega), rfl⟩
theorem shr_byte (v i : Nat) : (v : Int) / 2 ^ (8 * (i : Int)).toNat = ((v / 256 ^ i : Nat) : Int) := by
  rw [show (8 * (i : Int)).toNat = 8 * i by omega, show (256 : Nat) ^ i = 2 ^ (8 * i) by rw [Nat.pow_mul]]
  simp
set_option maxHeartbeats 4000000 in
set_option maxRecDepth 100000 in
theorem put_any (g : By) (gb cap at' s v n : Nat) (T : TypeId) (w : World) (h : Blk w gb (bcells g n).toArray T) (hn : n ≤ 1000000) (hnc : n ≤ cap) (hs : sizeB s = true) (ha : at' + s ≤ n) (hv : v < 18446744073709551616) :
    Calls Tryz.prog 62 #[.slice (some ⟨gb, 0, none⟩) n cap, .int .i64 at', .int .i64 s, .int .u64 v] w (RetW (.bool true) fun w' => Blk w' gb (bcells (putW g at' s v) n).toArray T ∧ Chg (· = gb) w w') := by
  have hs8 : 1 ≤ s ∧ s ≤ 8 := by rcases sizeB_of hs with h | h | h | h <;> omega
  have H0 := Lib.hid (there_any (some ⟨gb, 0, none⟩) n cap at' s w (by omega) (by omega) (by omega))
  rw [show thereB n at' s = true by unfold thereB; rw [hs, decide_eq_true (by omega), decide_eq_true (by omega), decide_eq_true (by omega)]; rfl] at H0
  have HB := Lib.hid h
  clear hs h
  go_enter Tryz.func62, Tryz.ntmps62
  go_wp2_with fail
  with_reducible refine H0.out.mono ?_
  rintro e w1 ⟨rfl, hw1⟩
  subst hw1
  go_wp2_with fail
  go_loopg [16] s (fun m iv wr => ∃ i : Nat, i + m = s ∧ iv = .int .i64 i ∧ Blk wr gb (bcells (putW g at' i v) n).toArray T ∧ Chg (· = gb) w1 wr)
  case atStart => exact ⟨0, by omega, rfl, by rw [putW_zero]; exact HB.out, Chg.refl _ _⟩
  case round =>
    obtain ⟨i, hi, rfl, hblk, hC⟩ := hrel
    rename World => wr
    have HBK := Lib.hid hblk
    have HC := Lib.hid hC
    have HI := Lib.hid hi
    have i0 : (0 : Int) ≤ i := by omega
    have i8 : i ≤ s := by omega
    clear hblk hC hi
    by_cases hlt : i < s
    · have hx := HBK.out.cell' (i := at' + i) (by simpa using bcells_get (g := putW g at' i v) (show at' + i < n by omega))
      have hf := HBK.out.frozen (at' + i)
      have hl := HBK.out.lt
      have s1 := shr_byte v i
      have HX : Hid (Blk (wr.setCell ⟨gb, at' + i, none⟩ (.int .u8 ((v / 256 ^ i % 256 : Nat) : Int))) gb (bcells (putW g at' (i + 1) v) n).toArray T) := Lib.hid (by
        have := HBK.out.set (at' + i) (.int .u8 ((v / 256 ^ i % 256 : Nat) : Int))
        rw [List.setIfInBounds_toArray, bcells_set, ← putW_step] at this
        exact this)
      have HC2 : Hid (Chg (· = gb) w1 (wr.setCell ⟨gb, at' + i, none⟩ (.int .u8 ((v / 256 ^ i % 256 : Nat) : Int)))) := Lib.hid (HC.out.setCell (.inl rfl) _)
      obtain ⟨q, hq⟩ : ∃ q, v / 256 ^ i = q := ⟨_, rfl⟩
      rw [hq] at s1 HX HC2
      have i1 : (i : Int) < s := by omega
      clear hq
      go_wp2_with fail
      go_roundg (s - (i + 1))
      case measure => have := HI.out; omega
      case rel => exact ⟨i + 1, by omega, by go_num, HX.out, HC2.out⟩
    · obtain rfl : s = i := by omega
      go_wp2_with fail
      go_ret
      exact ⟨rfl, HBK.out, HC.out⟩
end Go.Proofs.YtdjaeoeejcmhdaaGreatDoor
set_option linter.unusedVariables false
set_option linter.unusedSimpArgs false
namespace Go.Proofs.YtdjaeoeejcmhdaaGreatDoor
open Go.RowKit Go.RR
/-- Frames of a memory: the next one that was never taken, the end, those that are taken. (No frame is ever given back by what is here.) -/
structure Stk where
  first : Nat
  next : Nat
  fin : Nat
  taken : List Nat
def addN : List Nat → Nat → List Nat
  | [], n => [n]
  | x :: l, n => if x = n then n :: l else x :: addN l n
def Stk.take (s : Stk) : Option (Nat × Stk) := if s.next < s.fin then some (s.next, { s with next := s.next + 1, taken := addN s.taken s.next }) else none
/-- All frames of a stock lie in a memory. -/
structure Stk.Ok (s : Stk) (fr : Nat) : Prop where
  next : s.next ≤ s.fin
  fin : s.fin ≤ fr
theorem Stk.take_some {s s' : Stk} {f : Nat} (ht : s.take = some (f, s')) : s.next < s.fin ∧ f = s.next ∧ s' = { s with next := s.next + 1, taken := addN s.taken s.next } := by
  unfold Stk.take at ht
  split at ht
  · rename_i hlt
    cases ht
    exact ⟨hlt, rfl, rfl⟩
  · cases ht
theorem Stk.take_none {s : Stk} (ht : s.take = none) : s.fin ≤ s.next := by
  unfold Stk.take at ht
  split at ht
  · cases ht
  · omega
def zeroPg (b : By) (f : Nat) : By := fun a => if a / 4096 = f then 0 else b a
/-- A page laid whole: bytes, then zeros. -/
def layPg (b : By) (f : Nat) (d : Nat → Nat) : By := fun a => if a / 4096 = f then d (a % 4096) else b a
/-- What tables are built of: memory, stock, how many frames they have. -/
structure Tst where
  b : By
  s : Stk
  used : Nat
def tabTake (t : Tst) : (Nat × Int) × Tst :=
  match t.s.take with
  | none => ((0, 50), t)
  | some (f, s') => ((f, 0), ⟨zeroPg t.b f, s', t.used + 1⟩)
def ptrP (f : Nat) : Pte := ⟨true, false, false, false, false, false, false, false, 0, f⟩
def leadF (t : Tst) (place : Nat) : (Nat × Int) × Tst :=
  if getW t.b place 8 ≠ 0 then (if leafB (pteG (getW t.b place 8)) then ((0, 130), t) else (((pteG (getW t.b place 8)).ppn, 0), t))
  else
    let r := tabTake t
    if r.1.2 ≠ 0 then ((0, r.1.2), r.2) else ((r.1.1, 0), { r.2 with b := putW r.2.b place 8 (pteW (ptrP r.1.1)) })
def mayL (p : Pte) (l : Nat) : Bool := decide (pteG (pteW p) = p) && (rightP8 p && (leafB p && evenB p.ppn l))
def mayB (p : Pte) : Bool := mayL p 0
/-- A page of 4 KiB is mapped. -/
def mapF (root : Nat) (t : Tst) (va : Nat) (p : Pte) : Int × Tst :=
  if !canonB va || !mayB p then (2, t)
  else
    let r := leadF t (root * 4096 + 8 * idx va 2)
    if r.1.2 ≠ 0 then (r.1.2, r.2)
    else
      let q := leadF r.2 (r.1.1 * 4096 + 8 * idx va 1)
      if q.1.2 ≠ 0 then (q.1.2, q.2)
      else if getW q.2.b (q.1.1 * 4096 + 8 * idx va 0) 8 ≠ 0 then (130, q.2)
      else (0, { q.2 with b := putW q.2.b (q.1.1 * 4096 + 8 * idx va 0) 8 (pteW p) })
def changeF (fr root : Nat) (b : By) (va : Nat) (p : Pte) : Int × By :=
  let l := findF b fr root va
  if l.2 ≠ 0 then (l.2, b) else if !mayL p l.1.level.toNat then (2, b) else (0, putW b l.1.pos 8 (pteW p))
def unmapF (fr root : Nat) (b : By) (va : Nat) : By :=
  let l := findF b fr root va
  if l.2 ≠ 0 then b else putW b l.1.pos 8 0
structure Shp where
  code : Int
  priv : Int
  shared : Int
deriving DecidableEq
def Shp.ok (s : Shp) : Bool := decide (1 ≤ s.code) && (decide (s.code ≤ 16) && (decide (0 ≤ s.priv) && (decide (s.priv ≤ 16) && (decide (0 ≤ s.shared) && decide (s.shared ≤ 65536)))))
def codeP (f : Nat) : Pte := ⟨true, true, false, true, true, false, true, false, 0, f⟩
def ownP (f : Nat) : Pte := ⟨true, true, true, false, true, false, true, true, 0, f⟩
def readP (f : Nat) : Pte := ⟨true, true, false, false, true, false, true, false, 0, f⟩
/-- Pages that are mapped from the beginning on: n of them from a page on; the frames. -/
def layF (root : Nat) (base : Nat) (e : Nat → Pte) : Nat → Nat → Tst → List Nat → (List Nat × Int) × Tst
  | 0, _, t, out => ((out, 0), t)
  | n + 1, i, t, out =>
    match t.s.take with
    | none => (([], 50), t)
    | some (f, s') =>
      let r := mapF root { t with s := s' } (base + i * 4096) (e f)
      if r.1 ≠ 0 then (([], r.1), r.2) else layF root base e n (i + 1) r.2 (out ++ [f])
structure Spc where
  shape : Shp
  u : Mu
  stk : Stk
  root : Nat
  used : Nat
  code : List Nat
  own : List Nat
  shared : List (Int × Nat)
  rights : List (Int × Int)
def Spc.tst (s : Spc) : Tst := ⟨s.u.b, s.stk, s.used⟩
def Spc.withT (s : Spc) (t : Tst) : Spc := { s with u := { s.u with b := t.b }, stk := t.s, used := t.used }
def rightOf (s : Spc) (p : Int) : Int := ((s.rights.find? fun x => x.1 == p).map (·.2)).getD 0
def frameOf (s : Spc) (p : Int) : Option Nat := (s.shared.find? fun x => x.1 == p).map (·.2)
def vaOf (p : Int) : Nat := 1073741824 + p.toNat * 4096
def putI {α : Type} : List (Int × α) → Int → α → List (Int × α)
  | [], k, v => [(k, v)]
  | p :: m, k, v => if p.1 = k then (k, v) :: m else p :: putI m k v
def frameF (s : Spc) (p : Int) : (Nat × Int) × Spc :=
  match frameOf s p with
  | some f => ((f, 0), s)
  | none => match s.stk.take with
    | none => ((0, 50), s)
    | some (f, s') => ((f, 0), { s with stk := s', u := { s.u with b := zeroPg s.u.b f }, shared := putI s.shared p f })
def remapF (s : Spc) (p : Int) (f : Nat) (r : Int) : Int × Spc :=
  if r = 0 then (0, { s with u := { s.u with b := unmapF s.u.fr s.root s.u.b (vaOf p) } })
  else if rightOf s p = 0 then
    let q := mapF s.root s.tst (vaOf p) (if r = 2 then ownP f else readP f)
    (q.1, s.withT q.2)
  else
    let q := changeF s.u.fr s.root s.u.b (vaOf p) (if r = 2 then ownP f else readP f)
    (q.1, { s with u := { s.u with b := q.2 } })
def setF (s : Spc) (p r : Int) : Int × Spc :=
  if p < 0 ∨ s.shape.shared ≤ p then (51, s)
  else if r < 0 ∨ 2 < r then (2, s)
  else if r = rightOf s p then (0, s)
  else
    let q := frameF s p
    if q.1.2 ≠ 0 then (q.1.2, q.2)
    else
      let m := remapF q.2 p q.1.1 r
      if m.1 ≠ 0 then (m.1, m.2)
      else (0, { m.2 with rights := putI m.2.rights p r, u := { m.2.u with tlb := tlbFence m.2.u.tlb (vaOf p) } })
end Go.Proofs.YtdjaeoeejcmhdaaGreatDoor
