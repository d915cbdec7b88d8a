/- Shrinking: Delete, Without, Split, less, Steps, Shrink: what each answers, and what it leaves. -/
import Derived.Test.YtokigldggkkbcaaKit2
import Derived.Test.YtokigldggkkbcaaShrinkAsk
set_option linter.unusedVariables false
namespace Go.Proofs.Ytokigldggkkbcaa
open Go.RowKit Go.RR

def woF {α : Type} (us : List α) (f c : Int) : List α := if f < 0 ∨ c ≤ 0 then us else without us f.toNat c.toNat

set_option maxHeartbeats 1000000 in
set_option maxRecDepth 100000 in
theorem n_delete (S : Nat → Prop) (w : World) (v : Value) (n i j : Nat) (us : List Value) (h : Own w S 3 1 v n us) (one : ∀ u ∈ us, u.oneCell' = true) (hij : i < j) (hj : j ≤ n) (hn : n ≤ 100000) :
    Calls Try.prog 76 #[v, .int .i64 i, .int .i64 j] w (RetV fun v' w' => Own w' S 3 1 v' (us.take i ++ us.drop j).length (us.take i ++ us.drop j) ∧ Chg S w w') := by
  obtain ⟨i0, hi0, hz0, hz1, hz2⟩ := info_parts n_elem
  have hus : us.length = n := by have := h.1; omega
  obtain ⟨g, off, cap, rfl, hSg, hcap, hmax⟩ : ∃ g off cap, v = .slice (some ⟨g, off, none⟩) n cap ∧ S g ∧ n ≤ cap ∧ cap ≤ maxLen := by
    obtain ⟨-, ⟨-, h0⟩ | ⟨g, off, cap, cur, e, h1, h2, h3, h4, h5⟩⟩ := h
    · omega
    · exact ⟨g, off, cap, e, h1, h3, h4⟩
  have hmax' : cap ≤ 9223372036854775807 := by unfold maxLen at hmax; omega
  have l0 : (0 : Int) ≤ i := by omega
  have l1 : (i : Int) < j := by omega
  have l2 : (j : Int) ≤ n := by omega
  have l3 : (n : Int) ≤ cap := by omega
  have hne : ((i : Int) == (j : Int)) = false := by simp; omega
  obtain ⟨q, hq⟩ : ∃ q, i + (n - j) = q := ⟨_, rfl⟩
  have hqn : q < n := by omega
  have HI : Own w S 3 1 (.slice (some ⟨g, off, none⟩) i cap) i (us.take i) := by
    obtain ⟨hl, h2 | ⟨g', off', cap', cur, e, h1, h2, h3, h4, h5, h6⟩⟩ := h
    · cases h2.1
    · cases e
      refine ⟨by simp; omega, .inr ⟨g, off, cap, cur, rfl, h1, h2, by omega, h4, h5, fun j u hu => ?_⟩⟩
      rw [List.getElem?_take] at hu
      split at hu
      · exact h6 j u hu
      · cases hu
  have HO := Lib.hid h
  have HQ := Lib.hid hq
  clear h hq hus
  have hsrc : ∃ o2, (if j = cap then off else off + j) = o2 ∧ Sl w S 1 (.slice (some ⟨g, o2, none⟩) (n - j) (cap - j)) (n - j) (us.drop j) := by
    by_cases hjc : j = cap
    · refine ⟨_, rfl, ?_⟩
      have : n - j = 0 := by omega
      have hd : us.drop j = [] := List.drop_of_length_le (by have := HO.out.1; omega)
      rw [this, hd]
      exact Sl.empty _ _ _ _ _
    · refine ⟨_, rfl, ?_⟩
      rw [if_neg hjc]
      have := (HO.out.drop (k := j) (by omega)).sl
      simpa using this
  obtain ⟨o2, ho2, hsrc⟩ := hsrc
  have one2 : ∀ u ∈ us.drop j, u.oneCell' = true := fun u hu => one u (List.mem_of_mem_drop hu)
  clear one
  by_cases hjc : j = cap
  · rw [if_pos hjc] at ho2
    subst hjc
    obtain rfl : n = j := by omega
    simp only [Nat.sub_self] at hsrc HQ
    subst ho2
    go_enter Try.func76, Try.ntmps76
    go_wp2_with fail
    refine wp_region_plan 6 [] [0, 1, 2, 3, 4, 5] (by kernel_rfl) (by kernel_rfl) (fun _ _ _ _ _ h => h) ?_
    simp only [pickOps_nil, pickOps_cons, Option.getD_some, List.getElem?_toArray, List.getElem?_cons_zero, List.getElem?_cons_succ, List.cons_append, List.nil_append, List.drop_succ_cons, List.drop_zero]
    repeat (go_big_quiet_step (fail))
    refine wpQuiet_nil ?_
    intro w1 hw1
    have C1 := Chg.of_ex hw1
    clear hw1
    have hI1 := HI.chg0 C1
    have hS1 := hsrc.chg0 C1
    have hO1 := HO.out.chg0 C1
    have hQ1 := HQ.out
    have hqc : q ≤ n := by omega
    have HHO := Lib.hid hO1
    clear HI hsrc HO hO1
    go_wp2_with (at_builtin; go_must (refine wpList_roomy rfl _ _ 47 rfl i0 Try.underlying47 hi0 hz1 rfl hI1 _ 0 q _ rfl hS1 one2 hQ1 hqc ?_))
    intro w2 o2 C2 hz2
    clear hI1 hS1 hQ1
    have hcl : ∀ ty, (Builtin.clear_ #[47] ty #[.slice (some ⟨g, off + q, none⟩) (n - q) (n - q)]).run Try.prog w2 = .ok (.tuple #[]) (w2.setCells g (off + q) (List.replicate (n - q) (.int .i64 0))) := by
      obtain ⟨-, ⟨h0, -⟩ | ⟨g', off', cap', cur, e, h1, h2, h3, h4, h5, h6⟩⟩ := o2
      · cases h0
      · cases e
        exact fun ty => Lib.run_clear_slice w2 47 3 ty _ Try.underlying47 Try.zeroValue3 rfl rfl g (off + q) _ _ (by omega) (fun t ht => by rw [h2.cell, Array.getElem?_eq_getElem (by omega)]; rfl) (fun t ht => h2.frozen _)
    obtain ⟨o3, C3, hz3⟩ := o2.setCells (n' := q) (us' := us.take i ++ us.drop n) (off + q) (List.replicate (n - q) (.int .i64 0)) (by omega) (by simp; omega) (by have := o2.1; omega) hqc (fun t u hu => .inr ⟨hu, .inl (by have := (List.getElem?_eq_some_iff.1 hu).1; have := o2.1; omega)⟩)
    generalize hw3 : w2.setCells g (off + q) (List.replicate (n - q) (.int .i64 0)) = w3 at *
    clear hw3 o2
    have lq : (q : Int) ≤ n := by omega
    have lq0 : (0 : Int) ≤ q := by omega
    have lq2 : (q : Int) < n := by omega
    have CA : Chg S w w3 := (C1.mono (S' := S) fun _ _ h => h.elim).trans (C2.trans C3 fun _ _ h => h) fun k _ hk => hk ▸ hSg
    go_wp2_with fail
    go_ret
    have hlen := o3.1
    rw [Nat.mul_one] at hlen
    rw [hlen]
    exact ⟨_, rfl, o3, CA⟩
  · rw [if_neg hjc] at ho2
    have l4 : (j : Int) < cap := by omega
    subst ho2
    go_enter Try.func76, Try.ntmps76
    go_wp2_with fail
    refine wp_region_plan 6 [] [0, 1, 2, 3, 4, 5] (by kernel_rfl) (by kernel_rfl) (fun _ _ _ _ _ h => h) ?_
    simp only [pickOps_nil, pickOps_cons, Option.getD_some, List.getElem?_toArray, List.getElem?_cons_zero, List.getElem?_cons_succ, List.cons_append, List.nil_append, List.drop_succ_cons, List.drop_zero]
    repeat (go_big_quiet_step (fail))
    refine wpQuiet_nil ?_
    intro w1 hw1
    have C1 := Chg.of_ex hw1
    clear hw1
    have hI1 := HI.chg0 C1
    have hS1 := hsrc.chg0 C1
    have hO1 := HO.out.chg0 C1
    have hQ1 := HQ.out
    have hqc : q ≤ cap := by omega
    have HHO := Lib.hid hO1
    clear HI hsrc HO hO1
    go_wp2_with (at_builtin; go_must (refine wpList_roomy rfl _ _ 47 rfl i0 Try.underlying47 hi0 hz1 rfl hI1 _ (n - j) q _ rfl hS1 one2 hQ1 hqc ?_))
    intro w2 o2 C2 hz2
    clear hI1 hS1 hQ1
    have hcl : ∀ ty, (Builtin.clear_ #[47] ty #[.slice (some ⟨g, off + q, none⟩) (n - q) (cap - q)]).run Try.prog w2 = .ok (.tuple #[]) (w2.setCells g (off + q) (List.replicate (n - q) (.int .i64 0))) := by
      obtain ⟨-, ⟨h0, -⟩ | ⟨g', off', cap', cur, e, h1, h2, h3, h4, h5, h6⟩⟩ := o2
      · cases h0
      · cases e
        exact fun ty => Lib.run_clear_slice w2 47 3 ty _ Try.underlying47 Try.zeroValue3 rfl rfl g (off + q) _ _ (by omega) (fun t ht => by rw [h2.cell, Array.getElem?_eq_getElem (by omega)]; rfl) (fun t ht => h2.frozen _)
    obtain ⟨o3, C3, hz3⟩ := o2.setCells (n' := q) (us' := us.take i ++ us.drop j) (off + q) (List.replicate (n - q) (.int .i64 0)) (by omega) (by simp; omega) (by have := o2.1; omega) hqc (fun t u hu => .inr ⟨hu, .inl (by have := (List.getElem?_eq_some_iff.1 hu).1; have := o2.1; omega)⟩)
    generalize hw3 : w2.setCells g (off + q) (List.replicate (n - q) (.int .i64 0)) = w3 at *
    clear hw3 o2
    have lq : (q : Int) ≤ n := by omega
    have lq0 : (0 : Int) ≤ q := by omega
    have lq2 : (q : Int) < cap := by omega
    have CA : Chg S w w3 := (C1.mono (S' := S) fun _ _ h => h.elim).trans (C2.trans C3 fun _ _ h => h) fun k _ hk => hk ▸ hSg
    go_wp2_with fail
    go_ret
    have hlen := o3.1
    rw [Nat.mul_one] at hlen
    rw [hlen]
    exact ⟨_, rfl, o3, CA⟩
set_option maxHeartbeats 1000000 in
set_option maxRecDepth 100000 in
theorem n_without (S : Nat → Prop) (w : World) (v : Value) (f c : Int) (us : List Value) (h : Sl w S 1 v us.length us) (one : ∀ u ∈ us, u.oneCell' = true) (hn : us.length ≤ 100000) (hc1 : -9223372036854775808 ≤ c) (hc2 : c ≤ 9223372036854775807) :
    Calls Try.prog 42 #[v, .int .i64 f, .int .i64 c] w (RetV fun v' w' => Own w' (fun k => w.heap.size ≤ k) 3 1 v' (woF us f c).length (woF us f c) ∧ Chg NoB w w') := by
  have hcl := n_clone S v us.length us w h one (by omega) (by unfold maxLen; omega)
  have HC := Lib.hid hcl
  have hsh : ∃ p cp, v = .slice p us.length cp := by obtain ⟨-, p, cp, e, -⟩ := h; exact ⟨p, cp, e⟩
  obtain ⟨p, cp, rfl⟩ := hsh
  obtain ⟨n, hn0⟩ : ∃ n, us.length = n := ⟨_, rfl⟩
  have HN := Lib.hid hn0
  have hn' : n ≤ 100000 := by omega
  by_cases hf : f < 0
  · have hd : decide (f < 0) = true := by simpa using hf
    have hw : woF us f c = us := by unfold woF; rw [if_pos (.inl hf)]
    have HW := Lib.hid hw
    clear hcl h hw hf hn0
    go_enter Try.func42, Try.ntmps42
    go_wp2_with fail
    refine HC.out.mono ?_
    rintro e w1 ⟨v1, rfl, o1, C1⟩
    go_wp2
    go_ret
    rw [HW.out]
    exact ⟨_, rfl, o1, C1⟩
  · have hd : decide (f < 0) = false := by simpa using hf
    obtain ⟨i, rfl⟩ := Int.eq_ofNat_of_zero_le (show 0 ≤ f by omega)
    by_cases hin : n ≤ i
    · have hd2 : decide (n ≤ i) = true := by simpa using hin
      have hw : woF us i c = us := by
        unfold woF without
        split
        · rfl
        · rw [Int.toNat_natCast, List.take_of_length_le (by omega), List.drop_of_length_le (by omega), List.append_nil]
      have HW := Lib.hid hw
      clear hcl h hw hf hn0
      go_enter Try.func42, Try.ntmps42
      go_wp2_with fail
      refine HC.out.mono ?_
      rintro e w1 ⟨v1, rfl, o1, C1⟩
      obtain ⟨p1, c1, rfl⟩ : ∃ p cp, v1 = .slice p n cp := by have hn1 := HN.out; obtain ⟨-, p, cp, e, -⟩ := o1.sl; exact ⟨p, cp, by rw [← hn1]; exact e⟩
      go_wp2_with fail
      go_ret
      rw [HW.out]
      exact ⟨_, rfl, o1, C1⟩
    · have hd2 : decide (n ≤ i) = false := by simpa using hin
      by_cases hc : c ≤ 0
      · have hd3 : decide (c ≤ 0) = true := by simpa using hc
        have hw : woF us i c = us := by unfold woF; rw [if_pos (.inr hc)]
        have HW := Lib.hid hw
        clear hcl h hw hf hn0 hc
        go_enter Try.func42, Try.ntmps42
        go_wp2_with fail
        refine HC.out.mono ?_
        rintro e w1 ⟨v1, rfl, o1, C1⟩
        obtain ⟨p1, c1, rfl⟩ : ∃ p cp, v1 = .slice p n cp := by have hn1 := HN.out; obtain ⟨-, p, cp, e, -⟩ := o1.sl; exact ⟨p, cp, by rw [← hn1]; exact e⟩
        go_wp2_with fail
        go_ret
        rw [HW.out]
        exact ⟨_, rfl, o1, C1⟩
      · have hd3 : decide (c ≤ 0) = false := by simpa using hc
        obtain ⟨k, rfl⟩ := Int.eq_ofNat_of_zero_le (show 0 ≤ c by omega)
        have hd4 : decide (k = 0) = false := by simp; omega
        obtain ⟨j, hj1, hj2, hj3, hw⟩ : ∃ j, i < j ∧ j ≤ n ∧ (i : Int) + min (k : Int) (n - i) = j ∧ woF us i k = us.take i ++ us.drop j := by
          refine ⟨i + min k (n - i), by omega, by omega, by omega, ?_⟩
          unfold woF without
          rw [if_neg (by omega), Int.toNat_natCast, Int.toNat_natCast]
          by_cases hk : k ≤ n - i
          · rw [Nat.min_eq_left hk]
          · rw [Nat.min_eq_right (by omega), List.drop_of_length_le (by omega), List.drop_of_length_le (by omega)]
        have HW := Lib.hid hw
        have l0 : (0 : Int) ≤ i := by omega
        have l1 : (i : Int) ≤ n := by omega
        have HJ := Lib.hid hj3
        clear hcl h hw hf hn0 hc hj3
        go_enter Try.func42, Try.ntmps42
        go_wp2_with fail
        refine HC.out.mono ?_
        rintro e w1 ⟨v1, rfl, o1, C1⟩
        obtain ⟨p1, c1, rfl⟩ : ∃ p cp, v1 = .slice p n cp := by have hn1 := HN.out; obtain ⟨-, p, cp, e, -⟩ := o1.sl; exact ⟨p, cp, by rw [← hn1]; exact e⟩
        go_wp2_with fail
        all_goals
          rw [HN.out] at o1
          first
            | rw [show (i : Int) + (k : Int) = (j : Int) from by have := HJ.out; omega]
            | rw [show (i : Int) + ((n : Int) - (i : Int)) = (j : Int) from by have := HJ.out; omega]
          refine (n_delete _ w1 _ n i j us o1 one hj1 hj2 hn').mono ?_
          rintro e w2 ⟨v2, rfl, o2, C2⟩
          go_wp2
          go_ret
          rw [HW.out]
          exact ⟨_, rfl, o2, C1.trans C2 fun k hk h => absurd hk (Nat.not_lt.2 h)⟩
theorem n_slinfo : (Try.prog.info? 47).map (fun i => (i.zero, i.size, i.bytes)) = some (some (.slice none 0 0), 1, 24) := by kernel_rfl
def piecesOf (us : List Value) (k : Nat) : List (List Value) := (List.range k).map fun i => (us.drop (partOff us.length k i)).take (partLen us.length k i)

set_option maxHeartbeats 1000000 in
set_option maxRecDepth 100000 in
theorem n_split (S : Nat → Prop) (w : World) (v : Value) (c : Int) (n k : Nat) (us : List Value) (h : Sl w S 1 v n us) (one : ∀ u ∈ us, u.oneCell' = true) (hn : n ≤ 100000) (hk : (k : Int) = min (max c 1) n) :
    Calls Try.prog 39 #[v, .int .i64 c] w (RetV fun v' w' => ∃ vs, Own w' (fun k => w.heap.size ≤ k) 47 1 v' k vs ∧ RowsAt w' (fun k => w.heap.size ≤ k) vs (piecesOf us k) ∧ Chg NoB w w') := by
  obtain ⟨i0, hi0, hz0, hz1, hz2⟩ := info_parts n_slinfo
  have hsh : ∃ p cp, v = .slice p n cp ∧ n ≤ cp := by obtain ⟨-, p, cp, e, h, -⟩ := h; exact ⟨p, cp, e, h⟩
  obtain ⟨p, cp, rfl, hcp⟩ := hsh
  have hun : us.length = n := by have := h.1; omega
  have HU := Lib.hid hun
  have HS := Lib.hid h
  have HK := Lib.hid hk
  have ONE := Lib.hid one
  have hkn : k ≤ n := by omega
  clear hun h hk one
  go_enter Try.func39, Try.ntmps39
  go_upto_region 1 with fail
  go_cut [1] (fun s1 wx => s1 = .int .i64 k ∧ w = wx)
  case first =>
    have hk := HK.out
    by_cases h1 : c < 1
    · have d1 : decide (c < 1) = true := by simpa using h1
      by_cases h2 : n < 1
      · have d2 : decide (n < 1) = true := by simpa using h2
        have HE := Lib.hid (show (n : Int) = k by omega)
        clear hk
        go_wp2_with fail
        all_goals (go_meet; first | exact ⟨by rw [HE.out], rfl⟩)
      · have HE := Lib.hid (show (1 : Int) = k by omega)
        clear hk
        go_wp2_with fail
        all_goals (go_meet; first | exact ⟨by rw [HE.out], rfl⟩)
    · by_cases h2 : (n : Int) < c
      · have HE := Lib.hid (show (n : Int) = k by omega)
        clear hk
        go_wp2_with fail
        all_goals (go_meet; first | exact ⟨by rw [HE.out], rfl⟩)
      · have HE := Lib.hid (show c = k by omega)
        clear hk
        go_wp2_with fail
        all_goals (go_meet; first | exact ⟨by rw [HE.out], rfl⟩)
  case rest =>
    obtain ⟨rfl, rfl⟩ := hcut
    go_wp2_with fail
    go_loopg [5, 6, 15] k (fun m o at_ ix wr => ∃ i : Nat, i + m = k ∧ ix = .int .i64 i ∧ at_ = .int .i64 (partOff n k i : Nat) ∧ ∃ (vs : List Value) (So Sr : Nat → Prop), Own wr So 47 1 o i vs ∧ RowsAt wr Sr vs ((piecesOf us k).take i) ∧ (∀ q, So q → w.heap.size ≤ q ∧ ¬ Sr q) ∧ (∀ q, Sr q → w.heap.size ≤ q) ∧ Chg NoB w wr)
    case atStart => exact ⟨0, by omega, rfl, by rw [partOff_zero]; rfl, [], NoB, NoB, Own.nil _ _ _ _, RowsAt.nil _ _, fun _ h => h.elim, fun _ h => h.elim, Chg.refl _ _⟩
    case round =>
      obtain ⟨i, hi, rfl, rfl, vs, So, Sr, hO, hR, hSo, hSr, hC⟩ := hrel
      have HSO := Lib.hid hSo
      have HSR := Lib.hid hSr
      clear hSo hSr
      have HI := Lib.hid hi
      have hik : i ≤ k := by omega
      clear hi
      have HO := Lib.hid hO
      have HR := Lib.hid hR
      clear hO hR
      by_cases hlt : i < k
      · have hle := partLen_le n k i hlt
        have hsuc := partOff_succ n k i
        have hpc : (piecesOf us k)[i]? = some ((us.drop (partOff n k i)).take (partLen n k i)) := by
          rw [← HU.out]; simp [piecesOf, hlt]
        have hq1 : ((n / k : Nat) : Int) = (n : Int) / k := by simp
        have hq2 : ((n % k : Nat) : Int) = (n : Int) % k := by simp
        have hq3 : n / k ≤ n := Nat.div_le_self _ _
        have hq4 : (0 : Int) ≤ (n : Int) / k ∧ (n : Int) / k ≤ 100000 := by rw [← hq1]; exact ⟨Int.natCast_nonneg _, Int.ofNat_le.2 (Nat.le_trans hq3 hn)⟩
        obtain ⟨hq4, hq5⟩ := hq4
        have hq6 : n % k < k := Nat.mod_lt _ (by omega)
        have hq7 : (0 : Int) ≤ (n : Int) % k ∧ (n : Int) % k ≤ 100000 := by rw [← hq2]; exact ⟨Int.natCast_nonneg _, Int.ofNat_le.2 (Nat.le_trans (Nat.le_of_lt hq6) (Nat.le_trans hkn hn))⟩
        obtain ⟨hq7, hq8⟩ := hq7
        have hs0 := partLen_pos n k i hkn (by omega)
        obtain ⟨g, off, rfl⟩ : ∃ g off, p = some ⟨g, off, none⟩ := by obtain ⟨-, p, c, e, -, h⟩ := HS.out; cases e; obtain ⟨g, off, e, -⟩ := h (by omega); exact ⟨g, off, e⟩
        have hpl : partLen n k i = n / k + if i < n % k then 1 else 0 := rfl
        generalize partOff n k i = a at *
        generalize partLen n k i = s at *
        generalize n / k = q at *
        generalize n % k = r at *
        have HQ1 := Lib.hid hq1
        have HQ2 := Lib.hid hq2
        have HPL := Lib.hid hpl
        have HSU := Lib.hid hsuc
        have HPC := Lib.hid hpc
        clear hq1 hq2 hpl hsuc hpc
        have l1 : (1 : Int) ≤ k := by omega
        have l2 : (0 : Int) ≤ n := by omega
        go_upto_region 7 with fail
        go_cut [8] (fun s8 wx => s8 = .int .i64 q ∧ wr = wx)
        case first =>
          go_wp2_with fail
          all_goals (go_meet; exact ⟨by rw [HQ1.out], rfl⟩)
        case rest =>
          obtain ⟨rfl, rfl⟩ := hcut
          have hqb : q ≤ s ∧ s ≤ q + 1 := by have := HPL.out; split at this <;> omega
          have hqn : s ≤ n := by omega
          go_upto_if 27 with fail
          go_cut [8] (fun s8 wx => s8 = .int .i64 s ∧ wr = wx)
          case first =>
            by_cases hir : i < r
            · have hd : decide ((i : Int) < (n : Int) % (k : Int)) = true := by rw [← HQ2.out]; simpa using hir
              have hd2 : (i : Int) < (n : Int) % (k : Int) := by simpa using hd
              have HS := Lib.hid (show s = q + 1 by have := HPL.out; rw [if_pos hir] at this; exact this)
              clear hir
              go_wp2_with fail
              all_goals (go_meet; exact ⟨by rw [HS.out]; go_num, rfl⟩)
            · have hd : decide ((i : Int) < (n : Int) % (k : Int)) = false := by rw [← HQ2.out]; simpa using hir
              have hd2 : ¬ (i : Int) < (n : Int) % (k : Int) := by simpa using hd
              have HS := Lib.hid (show s = q by have := HPL.out; rw [if_neg hir] at this; exact this)
              clear hir
              go_wp2_with fail
              all_goals (go_meet; exact ⟨by rw [HS.out], rfl⟩)
          case rest =>
            obtain ⟨rfl, rfl⟩ := hcut
            have m0 : (0 : Int) ≤ a := by omega
            have m1 : (a : Int) ≤ (a : Int) + s := by omega
            have m2 : (a : Int) + s ≤ cp := by omega
            have m3 : ¬ cp = a := by omega
            go_wp2_with fail
            have hcut := (HS.out.chg0 hC).cut (a := a) (k := s) (c := cp - a) (by omega) (by omega)
            refine (n_clone S _ s _ wr hcut (fun u hu => ONE.out u (List.mem_of_mem_drop (List.mem_of_mem_take hu))) (by omega) (by unfold maxLen; omega)).mono ?_
            rintro e w1 ⟨v1, rfl, o1, C1⟩
            obtain ⟨p1, c1, rfl⟩ : ∃ p c, v1 = .slice p s c := by obtain ⟨-, p, c, e, -⟩ := o1.sl; exact ⟨p, c, e⟩
            have A3 := (Chg.refl NoB w1).alloc (.cells #[.slice p1 s c1] 47)
            have oA := (HO.out.chg0 C1).chg0 A3
            have sA : Sl (w1.alloc (.cells #[.slice p1 s c1] 47)) _ 1 (.slice (some ⟨w1.heap.size, 0, none⟩) 1 1) 1 [.slice p1 s c1] := Sl.fresh w1 [.slice p1 s c1] 47 1 rfl
            have one1 : ∀ u ∈ [Value.slice p1 s c1], u.oneCell' = true := by simp [Value.oneCell']
            have b1 : i + 1 ≤ maxLen := by unfold maxLen; omega
            have b2 : (i + 1) * 24 ≤ 140737488355328 := by omega
            have O1 := Lib.hid o1
            have hz := hC.size
            have hz1' := C1.size
            clear hcut o1
            go_wp2_with (at_builtin; go_must (refine wpList_app rfl _ _ 67 rfl i0 _ 24 Try.underlying67 hi0 hz0 hz1 hz2 rfl rfl oA _ 1 _ rfl sA one1 b1 b2 ?_))
            intro v8 w8 o8 g8 _
            have C8 : Chg (fun k => Value.ownBlock u5 = some k) w1 w8 := (A3.mono (fun _ _ h => h.elim)).grown g8 (fun k hk => .inl hk)
            have hOB := HO.out.ownBlock
            have hz8 := C8.size
            have hR8 : RowsAt w8 (fun q => (Sr q ∧ q < wr.heap.size) ∨ (wr.heap.size ≤ q ∧ q < w1.heap.size)) (vs ++ [.slice p1 s c1]) ((piecesOf us k).take (i + 1)) := by
              rw [List.take_add_one, HPC.out]
              have d1 : ∀ q, (Sr q ∧ q < wr.heap.size) → ¬ Value.ownBlock u5 = some q := fun q h e => (HSO.out q (hOB q e).1).2 h.1
              have hl : ((us.drop a).take s).length = s := by have := HU.out; simp; omega
              refine RowsAt.snoc ((((HR.out.monoIn (S' := fun q => Sr q ∧ q < wr.heap.size) fun q h1 h2 => ⟨h2, h1⟩).chg0 C1).chg C8 d1).monoIn fun q _ h => .inl h) ?_
              rw [hl]
              exact ((O1.out.sl.monoIn (S' := fun q => wr.heap.size ≤ q ∧ q < w1.heap.size) fun q h1 h2 => ⟨h2, h1⟩).chg C8 fun q h e => by have := (hOB q e).2; omega).mono fun q h => .inr h
            have CF : Chg NoB w w8 := (hC.step C1).trans C8 fun q hq e => by have := (HSO.out q (hOB q e).1).1; omega
            have HR8 := Lib.hid hR8
            have HO8 := Lib.hid o8
            clear hR8 o8 oA sA one1 b1 b2 g8 A3 C8 C1
            go_wp2_with fail
            go_roundg (k - (i + 1))
            case measure => have := HI.out; omega
            case rel =>
              refine ⟨i + 1, by omega, by go_num, by rw [HSU.out]; go_num, _, _, _, HO8.out, HR8.out, fun q h => ?_, fun q h => ?_, CF⟩
              · rcases h with h | h
                · exact ⟨(HSO.out q (hOB q h).1).1, fun e => e.elim (fun e => (HSO.out q (hOB q h).1).2 e.1) (fun e => by have := (hOB q h).2; omega)⟩
                · have h : q = w1.heap.size + 1 := h
                  exact ⟨by omega, fun e => by omega⟩
              · rcases h with h | h
                · exact HSR.out q h.1
                · omega
      · obtain rfl : i = k := by have := HI.out; omega
        go_wp2
        go_ret
        have := HR.out
        rw [List.take_of_length_le (by simp [piecesOf])] at this
        exact ⟨_, rfl, vs, HO.out.mono fun k h => (HSO.out k h).1, this.monoIn fun k _ h => HSR.out k h, hC⟩
end Go.Proofs.Ytokigldggkkbcaa
