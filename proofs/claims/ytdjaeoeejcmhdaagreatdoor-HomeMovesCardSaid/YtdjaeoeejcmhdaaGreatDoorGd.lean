/- Entries of page tables: flags, places, addresses. No condition. A region that draws its order: bare operations first, then some that write memory in every order that may come up, then the tail. -/
import Derived.Test.YtdjaeoeejcmhdaaGreatDoorGc
import Derived.Test.YtdjaeoeejcmhdaaGreatDoorFa
set_option linter.unusedVariables false
set_option linter.unusedSimpArgs false
namespace Go.Proofs.YtdjaeoeejcmhdaaGreatDoor
open Go.RowKit Go.RR
set_option maxRecDepth 100000 in
theorem pteLeaf_any (p : Pte) (w : World) : Calls Tryz.prog 102 #[.agg #[.bool p.v, .bool p.r, .bool p.w, .bool p.x, .bool p.u, .bool p.g, .bool p.a, .bool p.d, .int .i64 p.rsw, .int .u64 p.ppn]] w (RetW (.bool (leafB p)) fun w' => Chg NoB w w') := by
  obtain ⟨v, r, pw, x, u, g, a, d, rsw, ppn⟩ := p
  have HC := Lib.hid ((Chg.refl NoB w).alloc (.cells #[.bool v, .bool r, .bool pw, .bool x, .bool u, .bool g, .bool a, .bool d, .int .i64 rsw, .int .u64 ppn] 135))
  cases r
  all_goals
    go_enter Tryz.func102, Tryz.ntmps102
    go_wp2_with fail
    go_ret
    exact ⟨rfl, HC.out⟩
set_option maxRecDepth 100000 in
theorem pteRight_any (p : Pte) (w : World) : Calls Tryz.prog 101 #[.agg #[.bool p.v, .bool p.r, .bool p.w, .bool p.x, .bool p.u, .bool p.g, .bool p.a, .bool p.d, .int .i64 p.rsw, .int .u64 p.ppn]] w (RetW (.bool (rightP8 p)) fun w' => Chg NoB w w') := by
  obtain ⟨v, r, pw, x, u, g, a, d, rsw, ppn⟩ := p
  have HC := Lib.hid ((Chg.refl NoB w).alloc (.cells #[.bool v, .bool r, .bool pw, .bool x, .bool u, .bool g, .bool a, .bool d, .int .i64 rsw, .int .u64 ppn] 135))
  cases v
  all_goals
    cases r
    all_goals
      cases pw
      all_goals
        go_enter Tryz.func101, Tryz.ntmps101
        go_wp2_with fail
        go_ret
        exact ⟨rfl, HC.out⟩
def levelB (n : Int) : Bool := decide (0 ≤ n) && decide (n < 3)
theorem level_cases (n : Int) : n = 0 ∨ n = 1 ∨ n = 2 ∨ levelB n = false := by
  by_cases h1 : 0 ≤ n
  · by_cases h2 : n < 3
    · omega
    · exact .inr (.inr (.inr (by unfold levelB; rw [decide_eq_false h2, Bool.and_false])))
  · exact .inr (.inr (.inr (by unfold levelB; rw [decide_eq_false h1, Bool.false_and])))
set_option maxRecDepth 100000 in
theorem level_any (n : Int) (w : World) : Calls Tryz.prog 143 #[.int .i64 n] w (RetW (.bool (levelB n)) fun w' => w' = w) := by
  by_cases h1 : 0 ≤ n
  · by_cases h2 : n < 3
    · have t1 : decide (0 ≤ n) = true := decide_eq_true h1
      have t2 : decide (n < 3) = true := decide_eq_true h2
      have HT : Hid (levelB n = true) := Lib.hid (by unfold levelB; rw [t1, t2]; rfl)
      clear h1 h2
      go_enter Tryz.func143, Tryz.ntmps143
      go_wp2_with fail
      go_ret
      exact ⟨ret_bool HT.out.symm, rfl⟩
    · have t1 : decide (0 ≤ n) = true := decide_eq_true h1
      have t2 : decide (n < 3) = false := decide_eq_false h2
      have HT : Hid (levelB n = false) := Lib.hid (by unfold levelB; rw [t1, t2]; rfl)
      clear h1 h2
      go_enter Tryz.func143, Tryz.ntmps143
      go_wp2_with fail
      go_ret
      exact ⟨ret_bool HT.out.symm, rfl⟩
  · have t1 : decide (0 ≤ n) = false := decide_eq_false h1
    have HT : Hid (levelB n = false) := Lib.hid (by unfold levelB; rw [t1]; rfl)
    clear h1
    go_enter Tryz.func143, Tryz.ntmps143
    go_wp2_with fail
    go_ret
    exact ⟨ret_bool HT.out.symm, rfl⟩
theorem and_lo (k : Nat) (hk : k ≤ 64) (x : Int) (h0 : 0 ≤ x) (h1 : x < 18446744073709551616) : bits .and .u64 x (2 ^ k - 1) = x % 2 ^ k :=
  bits_mask .u64 64 (by decide) (fun m h0 h1 => by rw [IntKind.wrap_u64]; omega) k hk x h0 (by simpa using h1)
set_option maxRecDepth 100000 in
theorem index_any (va : Nat) (l : Int) (w : World) (hv : va < 18446744073709551616) (hl : levelB l = true) : Calls Tryz.prog 138 #[.int .u64 va, .int .i64 l] w (RetW (.int .i64 (idx va l.toNat)) fun w' => w' = w) := by
  rcases level_cases l with rfl | rfl | rfl | h
  · have H0 := Lib.hid (level_any 0 w)
    rw [show levelB 0 = true from rfl] at H0
    have m1 : bits .and .u64 ((va : Int) / 4096) 511 = (va : Int) / 4096 % 512 := by have := and_lo 9 (by omega) ((va : Int) / 4096) (by omega) (by omega); simpa using this
    have e2 : ((va / 4096 % 512 : Nat) : Int) = (va : Int) / 4096 % 512 := by omega
    have HV : Hid (((idx va (0 : Int).toNat : Nat) : Int) = (va : Int) / 4096 % 512) := Lib.hid e2
    go_enter Tryz.func138, Tryz.ntmps138
    go_wp2_with fail
    with_reducible refine H0.out.mono ?_
    rintro e w1 ⟨rfl, hw1⟩
    subst hw1
    go_wp2_with fail
    go_ret
    exact ⟨by rw [HV.out]; rfl, rfl⟩
  · have H0 := Lib.hid (level_any 1 w)
    rw [show levelB 1 = true from rfl] at H0
    have m1 : bits .and .u64 ((va : Int) / 2097152) 511 = (va : Int) / 2097152 % 512 := by have := and_lo 9 (by omega) ((va : Int) / 2097152) (by omega) (by omega); simpa using this
    have e2 : ((va / 2097152 % 512 : Nat) : Int) = (va : Int) / 2097152 % 512 := by omega
    have HV : Hid (((idx va (1 : Int).toNat : Nat) : Int) = (va : Int) / 2097152 % 512) := Lib.hid e2
    go_enter Tryz.func138, Tryz.ntmps138
    go_wp2_with fail
    with_reducible refine H0.out.mono ?_
    rintro e w1 ⟨rfl, hw1⟩
    subst hw1
    go_wp2_with fail
    go_ret
    exact ⟨by rw [HV.out]; rfl, rfl⟩
  · have H0 := Lib.hid (level_any 2 w)
    rw [show levelB 2 = true from rfl] at H0
    have m1 : bits .and .u64 ((va : Int) / 1073741824) 511 = (va : Int) / 1073741824 % 512 := by have := and_lo 9 (by omega) ((va : Int) / 1073741824) (by omega) (by omega); simpa using this
    have e2 : ((va / 1073741824 % 512 : Nat) : Int) = (va : Int) / 1073741824 % 512 := by omega
    have HV : Hid (((idx va (2 : Int).toNat : Nat) : Int) = (va : Int) / 1073741824 % 512) := Lib.hid e2
    go_enter Tryz.func138, Tryz.ntmps138
    go_wp2_with fail
    with_reducible refine H0.out.mono ?_
    rintro e w1 ⟨rfl, hw1⟩
    subst hw1
    go_wp2_with fail
    go_ret
    exact ⟨by rw [HV.out]; rfl, rfl⟩
  · rw [hl] at h; cases h
set_option maxRecDepth 100000 in
theorem vpn_any (va : Nat) (w : World) (hv : va < 18446744073709551616) : Calls Tryz.prog 168 #[.int .u64 va] w (RetW (.int .u64 (vpn va)) fun w' => w' = w) := by
  have m1 : bits .and .u64 ((va : Int) / 4096) 134217727 = (va : Int) / 4096 % 134217728 := by have := and_lo 27 (by omega) ((va : Int) / 4096) (by omega) (by omega); simpa using this
  have e2 : ((va / 4096 % 134217728 : Nat) : Int) = (va : Int) / 4096 % 134217728 := by omega
  have HV : Hid ((vpn va : Int) = (va : Int) / 4096 % 134217728) := Lib.hid e2
  go_enter Tryz.func168, Tryz.ntmps168
  go_wp2_with fail
  go_ret
  exact ⟨by rw [HV.out]; rfl, rfl⟩
theorem canon_eq (va : Nat) (hv : va < 18446744073709551616) : (IntKind.u64.wrap (wrap64 (wrap64 (va : Int) * 33554432) / 33554432) == (va : Int)) = canonB va := by
  unfold canonB wrap64
  rw [IntKind.wrap_u64, Bool.eq_iff_iff, beq_iff_eq, Bool.or_eq_true, decide_eq_true_iff, decide_eq_true_iff]
  omega
set_option maxRecDepth 100000 in
theorem canon_any (va : Nat) (w : World) (hv : va < 18446744073709551616) : Calls Tryz.prog 118 #[.int .u64 va] w (RetW (.bool (canonB va)) fun w' => w' = w) := by
  have HV := Lib.hid (canon_eq va hv)
  go_enter Tryz.func118, Tryz.ntmps118
  go_wp2_with fail
  go_ret
  exact ⟨ret_bool HV.out, rfl⟩
set_option maxRecDepth 100000 in
theorem span_any (l : Int) (w : World) (hl : levelB l = true) : Calls Tryz.prog 144 #[.int .i64 l] w (RetW (.int .u64 ((2 ^ (12 + 9 * l.toNat) : Nat) : Int)) fun w' => w' = w) := by
  rcases level_cases l with rfl | rfl | rfl | h
  · have H0 := Lib.hid (level_any 0 w)
    rw [show levelB 0 = true from rfl] at H0
    go_enter Tryz.func144, Tryz.ntmps144
    go_wp2_with fail
    with_reducible refine H0.out.mono ?_
    rintro e w1 ⟨rfl, hw1⟩
    subst hw1
    go_wp2_with fail
    go_ret
    exact ⟨rfl, rfl⟩
  · have H0 := Lib.hid (level_any 1 w)
    rw [show levelB 1 = true from rfl] at H0
    go_enter Tryz.func144, Tryz.ntmps144
    go_wp2_with fail
    with_reducible refine H0.out.mono ?_
    rintro e w1 ⟨rfl, hw1⟩
    subst hw1
    go_wp2_with fail
    go_ret
    exact ⟨rfl, rfl⟩
  · have H0 := Lib.hid (level_any 2 w)
    rw [show levelB 2 = true from rfl] at H0
    go_enter Tryz.func144, Tryz.ntmps144
    go_wp2_with fail
    with_reducible refine H0.out.mono ?_
    rintro e w1 ⟨rfl, hw1⟩
    subst hw1
    go_wp2_with fail
    go_ret
    exact ⟨rfl, rfl⟩
  · rw [hl] at h; cases h
set_option maxRecDepth 100000 in
theorem join_any (ppn va : Nat) (l : Int) (w : World) (hp : ppn < 17592186044416) (hv : va < 18446744073709551616) (hl : levelB l = true) : Calls Tryz.prog 104 #[.int .u64 ppn, .int .u64 va, .int .i64 l] w (RetW (.int .u64 (joinF ppn va l.toNat)) fun w' => w' = w) := by
  rcases level_cases l with rfl | rfl | rfl | h
  · have H0 := Lib.hid (level_any 0 w)
    have H1 : Hid (Calls Tryz.prog 144 #[.int .i64 0] w (RetW (.int .u64 4096) fun w' => w' = w)) := Lib.hid (span_any 0 w rfl)
    rw [show levelB 0 = true from rfl] at H0
    have HV : Hid (((joinF ppn va (0 : Int).toNat : Nat) : Int) = ((ppn * 4096 / 4096 * 4096 + va % 4096 : Nat) : Int)) := Lib.hid (by
      have : joinF ppn va (0 : Int).toNat = ppn * 4096 % 18446744073709551616 / 4096 * 4096 + va % 4096 := rfl
      rw [this, Nat.mod_eq_of_lt (show ppn * 4096 < 18446744073709551616 by omega)])
    have m1 : bits .andNot .u64 ((ppn : Int) * 4096) 4095 = ((ppn * 4096 / 4096 * 4096 : Nat) : Int) := by
      have := u64_andNot_nat (ppn * 4096) 4095 (by omega) (by omega)
      rw [show (18446744073709551615 - 4095 : Nat) = 18446744073709547520 from rfl, nat_hi64_12, Nat.mod_eq_of_lt (show ppn * 4096 < 18446744073709551616 by omega)] at this
      rw [← this]
      congr 1
    have m2 : bits .and .u64 (va : Int) 4095 = ((va % 4096 : Nat) : Int) := by have := and_lo 12 (by omega) (va : Int) (by omega) (by omega); simpa using this
    obtain ⟨X, hX⟩ : ∃ X, ppn * 4096 / 4096 * 4096 = X := ⟨_, rfl⟩
    obtain ⟨Y, hY⟩ : ∃ Y, va % 4096 = Y := ⟨_, rfl⟩
    have m3 : bits .or .u64 (X : Int) (Y : Int) = ((X + Y : Nat) : Int) := by
      rw [u64_or_nat X Y (by omega) (by omega), nat_join 12 X Y (by rw [← hX]; simp) (by rw [← hY]; simp; omega)]
    rw [hX] at m1 HV
    rw [hY] at m2 HV
    clear hX hY
    go_enter Tryz.func104, Tryz.ntmps104
    go_wp2_with fail
    with_reducible refine H0.out.mono ?_
    rintro e w1 ⟨rfl, hw1⟩
    subst hw1
    go_wp2_with fail
    with_reducible refine H1.out.mono ?_
    rintro e w1 ⟨rfl, hw1⟩
    subst hw1
    go_wp2_with fail
    go_ret
    exact ⟨by rw [HV.out]; rfl, rfl⟩
  · have H0 := Lib.hid (level_any 1 w)
    have H1 : Hid (Calls Tryz.prog 144 #[.int .i64 1] w (RetW (.int .u64 2097152) fun w' => w' = w)) := Lib.hid (span_any 1 w rfl)
    rw [show levelB 1 = true from rfl] at H0
    have HV : Hid (((joinF ppn va (1 : Int).toNat : Nat) : Int) = ((ppn * 4096 / 2097152 * 2097152 + va % 2097152 : Nat) : Int)) := Lib.hid (by
      have : joinF ppn va (1 : Int).toNat = ppn * 4096 % 18446744073709551616 / 2097152 * 2097152 + va % 2097152 := rfl
      rw [this, Nat.mod_eq_of_lt (show ppn * 4096 < 18446744073709551616 by omega)])
    have m1 : bits .andNot .u64 ((ppn : Int) * 4096) 2097151 = ((ppn * 4096 / 2097152 * 2097152 : Nat) : Int) := by
      have := u64_andNot_nat (ppn * 4096) 2097151 (by omega) (by omega)
      rw [show (18446744073709551615 - 2097151 : Nat) = 18446744073707454464 from rfl, nat_hi64_21, Nat.mod_eq_of_lt (show ppn * 4096 < 18446744073709551616 by omega)] at this
      rw [← this]
      congr 1
    have m2 : bits .and .u64 (va : Int) 2097151 = ((va % 2097152 : Nat) : Int) := by have := and_lo 21 (by omega) (va : Int) (by omega) (by omega); simpa using this
    obtain ⟨X, hX⟩ : ∃ X, ppn * 4096 / 2097152 * 2097152 = X := ⟨_, rfl⟩
    obtain ⟨Y, hY⟩ : ∃ Y, va % 2097152 = Y := ⟨_, rfl⟩
    have m3 : bits .or .u64 (X : Int) (Y : Int) = ((X + Y : Nat) : Int) := by
      rw [u64_or_nat X Y (by omega) (by omega), nat_join 21 X Y (by rw [← hX]; simp) (by rw [← hY]; simp; omega)]
    rw [hX] at m1 HV
    rw [hY] at m2 HV
    clear hX hY
    go_enter Tryz.func104, Tryz.ntmps104
    go_wp2_with fail
    with_reducible refine H0.out.mono ?_
    rintro e w1 ⟨rfl, hw1⟩
    subst hw1
    go_wp2_with fail
    with_reducible refine H1.out.mono ?_
    rintro e w1 ⟨rfl, hw1⟩
    subst hw1
    go_wp2_with fail
    go_ret
    exact ⟨by rw [HV.out]; rfl, rfl⟩
  · have H0 := Lib.hid (level_any 2 w)
    have H1 : Hid (Calls Tryz.prog 144 #[.int .i64 2] w (RetW (.int .u64 1073741824) fun w' => w' = w)) := Lib.hid (span_any 2 w rfl)
    rw [show levelB 2 = true from rfl] at H0
    have HV : Hid (((joinF ppn va (2 : Int).toNat : Nat) : Int) = ((ppn * 4096 / 1073741824 * 1073741824 + va % 1073741824 : Nat) : Int)) := Lib.hid (by
      have : joinF ppn va (2 : Int).toNat = ppn * 4096 % 18446744073709551616 / 1073741824 * 1073741824 + va % 1073741824 := rfl
      rw [this, Nat.mod_eq_of_lt (show ppn * 4096 < 18446744073709551616 by omega)])
    have m1 : bits .andNot .u64 ((ppn : Int) * 4096) 1073741823 = ((ppn * 4096 / 1073741824 * 1073741824 : Nat) : Int) := by
      have := u64_andNot_nat (ppn * 4096) 1073741823 (by omega) (by omega)
      rw [show (18446744073709551615 - 1073741823 : Nat) = 18446744072635809792 from rfl, nat_hi64_30, Nat.mod_eq_of_lt (show ppn * 4096 < 18446744073709551616 by omega)] at this
      rw [← this]
      congr 1
    have m2 : bits .and .u64 (va : Int) 1073741823 = ((va % 1073741824 : Nat) : Int) := by have := and_lo 30 (by omega) (va : Int) (by omega) (by omega); simpa using this
    obtain ⟨X, hX⟩ : ∃ X, ppn * 4096 / 1073741824 * 1073741824 = X := ⟨_, rfl⟩
    obtain ⟨Y, hY⟩ : ∃ Y, va % 1073741824 = Y := ⟨_, rfl⟩
    have m3 : bits .or .u64 (X : Int) (Y : Int) = ((X + Y : Nat) : Int) := by
      rw [u64_or_nat X Y (by omega) (by omega), nat_join 30 X Y (by rw [← hX]; simp) (by rw [← hY]; simp; omega)]
    rw [hX] at m1 HV
    rw [hY] at m2 HV
    clear hX hY
    go_enter Tryz.func104, Tryz.ntmps104
    go_wp2_with fail
    with_reducible refine H0.out.mono ?_
    rintro e w1 ⟨rfl, hw1⟩
    subst hw1
    go_wp2_with fail
    with_reducible refine H1.out.mono ?_
    rintro e w1 ⟨rfl, hw1⟩
    subst hw1
    go_wp2_with fail
    go_ret
    exact ⟨by rw [HV.out]; rfl, rfl⟩
  · rw [hl] at h; cases h
end Go.Proofs.YtdjaeoeejcmhdaaGreatDoor
set_option linter.unusedVariables false
namespace Go.RR
open Go.RowKit
section
variable {P : Program} {ops : Array Oper} {md : Region.Mode} {S : World → Prop} {Q : Exit → Act → World → Prop}
/-- m operations, whichever is ready, S behind each; then R. -/
def wpAll (P : Program) (md : Region.Mode) (ops : Array Oper) (Q : Exit → Act → World → Prop) (S : World → Prop) (R : Act → World → Prop) : Nat → Array Bool → Act → World → Prop
  | 0, _, a, w => R a w
  | f + 1, listed, a, w => ∀ i ∈ Region.ready md ops listed, wpOp P ops Q i (fun a' w' => S w' ∧ wpAll P md ops Q S R f (listed.setIfInBounds i true) a' w') a w
def allB (md : Region.Mode) (ops : Array Oper) (g n : Nat) : Nat → Array Bool → Bool
  | 0, listed => Region.seqB md ops g n listed
  | f + 1, listed => !(Region.ready md ops listed).isEmpty && (Region.ready md ops listed).all fun i => decide (i < n) && allB md ops g n f (listed.setIfInBounds i true)
theorem anyK_all {n : Nat} (hn : n < ops.size) : ∀ (f : Nat) (listed : Array Bool) (a : Act) (w : World), allB md ops (ops.size - n) n f listed = true →
    wpAll P md ops Q S (wpList P ops Q (ops.toList.drop n)) f listed a w → anyK P md ops Q S n (f + (ops.size - n)) listed a w
  | 0, listed, a, w, hB, h => by
    have hl : (ops.toList.drop n).length = ops.size - n := by simp
    rw [Nat.zero_add, ← hl]
    exact anyK_seq _ n listed a w (Nat.le_refl _) (fun j => by simp) (by rw [hl]; exact hB) h
  | f + 1, listed, a, w, hB, h => by
    simp only [allB, Bool.and_eq_true, List.all_eq_true, decide_eq_true_eq] at hB
    obtain ⟨hne, hall⟩ := hB
    rw [show f + 1 + (ops.size - n) = (f + (ops.size - n)) + 1 by omega]
    refine ⟨fun h1 => (by rw [h1] at hne; simp at hne), fun i hi => ?_⟩
    exact wpOp_mono (fun a' w' h' => ⟨fun _ => h'.1, anyK_all hn f _ a' w' (hall i hi).2 h'.2⟩) (h i hi)
def takeAllB (md : Region.Mode) (ops : Array Oper) (g n m : Nat) : List Nat → Array Bool → Bool
  | [], listed => allB md ops g n m listed
  | k :: l, listed => decide (k < n) && (((ops[k]?).bind (·.dst)).isSome) && (Region.ready md ops listed).contains k && Region.free md ops listed k && takeAllB md ops g n m l (listed.setIfInBounds k true)
def takenL : List Nat → Array Bool → Array Bool
  | [], l => l
  | k :: A, l => takenL A (l.setIfInBounds k true)
theorem anyK_takeAll {n m : Nat} (hsel : Region.noSelect ops = true) (hs : Region.sinkB md ops n = true) (hc : Region.chainB md ops n = true) (hn : n < ops.size)
    (hQ : ∀ c a d v w, Q (.panic c) (a.put (some d) v) w → Q (.panic c) a w) :
    ∀ (A : List Nat) (listed : Array Bool) (a : Act) (w : World), S w → HeadInv md ops n listed → takeAllB md ops (ops.size - n) n m A listed = true →
    wpTake P ops S (fun a' => wpAll P md ops Q S (wpList P ops Q (ops.toList.drop n)) m (takenL A listed) a' w) (pickOps ops A) a → anyK P md ops Q S n (A.length + (m + (ops.size - n))) listed a w
  | [], listed, a, w, hS, _, hB, h => by
    rw [List.length_nil, Nat.zero_add]
    exact anyK_all hn m listed a w hB h
  | k :: A, listed, a, w, hS, inv, hB, h => by
    simp only [takeAllB, Bool.and_eq_true, decide_eq_true_eq] at hB
    obtain ⟨⟨⟨⟨hkn, hd⟩, hr⟩, hf⟩, hB'⟩ := hB
    have hr' : k ∈ Region.ready md ops listed := by simpa using hr
    obtain ⟨hkun, o, h0, _⟩ := mem_ready.1 hr'
    rw [pickOps_cons, h0, Option.getD_some] at h
    obtain ⟨v, hy, hK⟩ := h
    rw [h0] at hd
    obtain ⟨d, hd'⟩ := Option.isSome_iff_exists.1 hd
    simp only [Option.bind_some] at hd'
    rw [show (k :: A).length + (m + (ops.size - n)) = (A.length + (m + (ops.size - n))) + 1 by simp; omega]
    exact anyK_first h0 (Region.noSelect_spec hsel) hs hc hn hkn (fun c a w => by rw [hd']; exact hQ c a d _ w) _ listed a w inv (Region.free_spec h0 hf) hr' hy hS
      (anyK_takeAll hsel hs hc hn hQ A _ _ w hS (inv.set hr' hkn) hB' hK)
def heldAllB (md : Region.Mode) (ops : Array Oper) (n m : Nat) (A : List Nat) : Bool :=
  Region.noSelect ops && decide (n < ops.size) && decide (A.length + m = n) && Region.sinkB md ops n && Region.chainB md ops n && takeAllB md ops (ops.size - n) n m A (Array.replicate ops.size false)
theorem wp_region_all {id : Nat} {a : Act} {w : World} {l : List Oper} (n m : Nat) (A : List Nat) (S : World → Prop) (hm : P.follows .mixedOrders = true) (hB : heldAllB .any l.toArray n m A = true)
    (hQ : ∀ c a d v w, Q (.panic c) (a.put (some d) v) w → Q (.panic c) a w) (hS : S w.drew)
    (h : wpTake P l.toArray S (fun a' => wpAll P .any l.toArray Q S (wpList P l.toArray Q (l.drop n)) m (takenL A (Array.replicate l.toArray.size false)) a' w.drew) (pickOps l.toArray A) a) : (Code.region id l.toArray true).wp P Q a w := by
  simp only [heldAllB, Bool.and_eq_true, decide_eq_true_eq] at hB
  obtain ⟨⟨⟨⟨⟨hsel, hn⟩, hAB⟩, hs⟩, hc⟩, ht⟩ := hB
  have inv0 : HeadInv .any l.toArray n (Array.replicate l.toArray.size false) :=
    ⟨by simp, fun j oj _ hl => (by rw [getD_replicate_false] at hl; cases hl), fun t _ ht => getD_in (by simpa using ht) (getD_replicate_false _ _)⟩
  have := anyK_takeAll (P := P) (S := S) (m := m) hsel hs hc hn hQ A _ a w.drew hS inv0 ht h
  rw [show A.length + (m + (l.toArray.size - n)) = l.toArray.size by omega] at this
  exact wp_region_any hm (anyK_any _ _ _ _ this)
theorem wpAll_nil {R : Act → World → Prop} {listed : Array Bool} {a : Act} {w : World} (h : R a w) : wpAll P md ops Q S R 0 listed a w := h
theorem wpAll_cons {R : Act → World → Prop} {f : Nat} {listed : Array Bool} {a : Act} {w : World} (l : List Nat) (hr : Region.ready md ops listed = l)
    (h : ∀ i ∈ l, ∃ o : Oper, ops[i]? = some o ∧ o.guard = none ∧ ∀ K : Act → World → Prop, (∀ a' w', S w' → wpAll P md ops Q S R f (listed.setIfInBounds i true) a' w' → K a' w') → o.wp P a w K Q) : wpAll P md ops Q S R (f + 1) listed a w := by
  intro i hi
  rw [hr] at hi
  obtain ⟨o, h0, hg, hK⟩ := h i hi
  unfold wpOp
  simp only [h0]
  rw [if_pos (by simp [Region.wanted, hg])]
  exact .inl (hK _ fun a' w' h1 h2 => ⟨h1, h2⟩)
end
end Go.RR
