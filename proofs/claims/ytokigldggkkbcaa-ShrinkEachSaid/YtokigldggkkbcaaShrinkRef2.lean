/- The reference of layer 38: Parts, Without. -/
import Derived.Test.YtokigldggkkbcaaShrinkRef
set_option linter.unusedVariables false
namespace Go.Proofs.Ytokigldggkkbcaa
open Go.RowKit Go.RR

def nats (l : List Nat) : List Int := l.map fun (n : Nat) => (n : Int)
theorem partLen_step (i n j : Nat) (hj : j < n) : partLen (i + 1) n j = partLen i n j + if j = i % n then 1 else 0 := by
  unfold partLen
  have h1 := Nat.div_add_mod i n
  have h2 := Nat.mod_lt i (show 0 < n by omega)
  by_cases hw : i % n + 1 = n
  · have hm : i + 1 = n * (i / n + 1) := by rw [Nat.mul_add]; omega
    have e1 : (i + 1) / n = i / n + 1 := by rw [hm, Nat.mul_div_cancel_left _ (by omega)]
    have e2 : (i + 1) % n = 0 := by rw [hm, Nat.mul_mod_right]
    rw [e1, e2]
    generalize i / n = q at *
    generalize i % n = r at *
    repeat' split
    all_goals omega
  · have hm : i + 1 = (i % n + 1) + n * (i / n) := by omega
    have e1 : (i + 1) / n = i / n := by rw [hm, Nat.add_mul_div_left _ _ (by omega), Nat.div_eq_of_lt (by omega)]; omega
    have e2 : (i + 1) % n = i % n + 1 := by rw [hm, Nat.add_mul_mod_self_left, Nat.mod_eq_of_lt (by omega)]
    rw [e1, e2]
    generalize i / n = q at *
    generalize i % n = r at *
    repeat' split
    all_goals omega
theorem nats_step (i n : Nat) (hn : 0 < n) : nats (partsOf (i + 1) n) = (nats (partsOf i n)).set (i % n) (((partLen i n (i % n) : Nat) : Int) + 1) := by
  have hm := Nat.mod_lt i hn
  apply List.ext_getElem?
  intro j
  by_cases hj : j < n
  · rw [List.getElem?_set]
    simp only [nats, List.getElem?_map, partsOf_get _ _ _ hj, Option.map_some]
    rw [partLen_step i n j hj]
    by_cases hji : i % n = j
    · rw [if_pos hji]
      subst hji
      simp [partsOf_len, hm]
    · rw [if_neg hji, if_neg (fun e => hji e.symm)]; simp
  · rw [List.getElem?_eq_none (by simp [nats, partsOf_len]; omega), List.getElem?_eq_none (by simp [nats, partsOf_len]; omega)]
theorem nats_zero (n : Nat) : nats (partsOf 0 n) = List.replicate n 0 := by
  apply List.ext_getElem
  · simp [nats, partsOf_len]
  · intro i h1 h2
    simp [nats, partsOf, partLen]

set_option maxHeartbeats 1000000 in
set_option maxRecDepth 100000 in
theorem sh_parts (w : World) (s k : Nat) (c : Int) (hs : s ≤ 100000) (hk : (k : Int) = min (max c 1) s) :
    Calls Try.prog 40 #[.int .i64 s, .int .i64 c] w (RetV fun v w' => Own w' (fun q => w.heap.size ≤ q) 3 1 v k (ints (nats (partsOf s k))) ∧ Chg NoB w w') := by
  obtain ⟨i0, hi0, hz0, hz1, hz2⟩ := info_parts n_elem
  have HK := Lib.hid hk
  have hks : k ≤ s := by omega
  clear hk
  go_enter Try.func40, Try.ntmps40
  go_upto_if 9 with fail
  go_cut [1] (fun s1 wx => s1 = .int .i64 (max c 1) ∧ w = wx)
  case first =>
    by_cases h1 : c < 1
    · have HE := Lib.hid (show max c 1 = 1 by omega)
      go_wp2_with fail
      all_goals (go_meet; exact ⟨by rw [HE.out], rfl⟩)
    · have HE := Lib.hid (show max c 1 = c by omega)
      go_wp2_with fail
      all_goals (go_meet; exact ⟨by rw [HE.out], rfl⟩)
  case rest =>
    obtain ⟨rfl, rfl⟩ := hcut
    obtain ⟨d, hd⟩ : ∃ d, max c 1 = d := ⟨_, rfl⟩
    rw [hd]
    have HD := Lib.hid hd
    clear hd
    go_upto_if 12 with fail
    go_cut [1] (fun s1 wx => s1 = .int .i64 k ∧ w = wx)
    case first =>
      by_cases h1 : (s : Int) < d
      · have HE := Lib.hid (show k = s by have := HD.out; have := HK.out; omega)
        go_wp2_with fail
        all_goals (go_meet; exact ⟨by rw [HE.out], rfl⟩)
      · have HE := Lib.hid (show d = k by have := HD.out; have := HK.out; omega)
        go_wp2_with fail
        all_goals (go_meet; exact ⟨by rw [HE.out], rfl⟩)
    case rest =>
      obtain ⟨rfl, rfl⟩ := hcut
      go_wp2_with fail
      go_loopg [5, 6] k (fun m o ix wr => ∃ i : Nat, i + m = k ∧ ix = .int .i64 i ∧ Own wr (fun q => w.heap.size ≤ q) 3 1 o i (ints (List.replicate i 0)) ∧ Chg NoB w wr)
      case atStart => exact ⟨0, by omega, rfl, Own.nil _ _ _ _, Chg.refl _ _⟩
      case round =>
        obtain ⟨i, hi, rfl, hO, hC⟩ := hrel
        have HI := Lib.hid hi
        have hik : i ≤ k := by omega
        have HO := Lib.hid hO
        clear hi hO
        by_cases hlt : i < k
        · have A3 := (Chg.refl NoB wr).alloc (.cells #[.int .i64 0] 3)
          have oA := HO.out.chg0 A3
          have sA : Sl (wr.alloc (.cells #[.int .i64 0] 3)) _ 1 (.slice (some ⟨wr.heap.size, 0, none⟩) 1 1) 1 [.int .i64 0] := Sl.fresh wr [.int .i64 0] 3 1 rfl
          have one1 : ∀ u ∈ [Value.int .i64 0], u.oneCell' = true := by simp [Value.oneCell']
          have b1 : i + 1 ≤ maxLen := by unfold maxLen; omega
          have b2 : (i + 1) * 8 ≤ 140737488355328 := by omega
          go_wp2_with (at_builtin; go_must (refine wpList_app rfl _ _ 47 rfl i0 _ 8 Try.underlying47 hi0 hz0 hz1 hz2 rfl rfl oA _ 1 _ rfl sA one1 b1 b2 ?_))
          intro v8 w8 o8 g8 _
          have hz := hC.size
          have hOB := HO.out.ownBlock
          have C8 : Chg NoB w w8 := (hC.step A3).grown g8 (fun k hk => .inr (hOB k hk).1)
          have o9 : Own w8 (fun q => w.heap.size ≤ q) 3 1 v8 (i + 1) (ints (List.replicate (i + 1) 0)) := by
            rw [List.replicate_succ']
            simp only [ints, List.map_append, List.map_cons, List.map_nil]
            exact o8.mono fun q h => h.elim (fun h => (hOB q h).1) (fun h => by show w.heap.size ≤ q; rw [h]; first | exact hz | exact Nat.le_succ_of_le hz)
          clear o8 oA sA one1 b1 b2 g8 A3
          go_wp2_with fail
          go_roundg (k - (i + 1))
          case measure => have := HI.out; omega
          case rel => exact ⟨i + 1, by omega, by go_num, o9, C8⟩
        · obtain rfl : i = k := by have := HI.out; omega
          have h0 := HO.out
          rw [← nats_zero] at h0
          have HO0 := Lib.hid h0
          obtain ⟨wc, hwc⟩ : ∃ wc, wc = wr := ⟨_, rfl⟩
          obtain ⟨pv, cv, hpv⟩ : ∃ p c, u5 = .slice p i c := by obtain ⟨-, p, c, e, -⟩ := h0.sl; exact ⟨p, c, e⟩
          subst hwc hpv
          clear h0 HO
          go_wp2_with fail
          go_loopg [7] s (fun m ix wr => ∃ j : Nat, j + m = s ∧ ix = .int .i64 j ∧ Own wr (fun q => w.heap.size ≤ q) 3 1 (.slice pv i cv) i (ints (nats (partsOf j i))) ∧ Chg NoB w wr)
          case atStart => exact ⟨0, by omega, rfl, HO0.out, hC⟩
          case round =>
            obtain ⟨j, hj, rfl, hO, hC2⟩ := hrel
            have HJ := Lib.hid hj
            have hjs : j ≤ s := by omega
            have HO := Lib.hid hO
            clear hj hO HO0
            by_cases hlt2 : j < s
            · have hi0' : 0 < i := by have := HK.out; omega
              obtain ⟨g, off, rfl, hgs, hcell, hcell2, hfr⟩ : ∃ g off, pv = some ⟨g, off, none⟩ ∧ w.heap.size ≤ g ∧ wr.cell? ⟨g, off + j % i, none⟩ = some (.int .i64 ((partLen j i (j % i) : Nat) : Int)) ∧ g < wr.heap.size ∧ wr.frozen? ⟨g, off + j % i, none⟩ = false := by
                have hm := Nat.mod_lt j hi0'
                obtain ⟨-, ⟨-, h0⟩ | ⟨g, off, cap, cur, e, h1, h2, h3, h4, h5, h6⟩⟩ := HO.out
                · omega
                · cases e
                  exact ⟨g, off, rfl, h1, h2.cell' (h6 _ _ (ints_at (by simp [nats, partsOf_get _ _ _ hm]))), h2.lt, h2.frozen _⟩
              have hq := Nat.mod_lt j hi0'
              have hpl : partLen j i (j % i) ≤ 200001 := by unfold partLen; have := Nat.div_le_self j i; split <;> omega
              have hmod : ((j % i : Nat) : Int) = (j : Int) % i := by simp
              generalize hr : j % i = r at *
              generalize hpq : partLen j i r = q at *
              have HR := Lib.hid hr
              have HQ := Lib.hid hpq
              clear hr hpq
              have HM := Lib.hid hmod
              have hm0 : (0 : Int) ≤ (j : Int) % i := by rw [← hmod]; omega
              have hm1 : (j : Int) % i < i := by rw [← hmod]; omega
              have hmt : ((j : Int) % i).toNat = r := by rw [← hmod]; rfl
              have l1 : (1 : Int) ≤ i := by omega
              clear hmod
              go_wp2_with fail
              go_roundg (s - (j + 1))
              case measure => have := HJ.out; omega
              case rel =>
                refine ⟨j + 1, by omega, by go_num, ?_, hC2.setCell (a := ⟨g, off + r, none⟩) (.inr hgs) _⟩
                have h1 := HO.out.set1 (k := r) hq (.int .i64 ((q : Int) + 1))
                have h2 := nats_step j i hi0'
                rw [HR.out, HQ.out] at h2
                rw [h2]
                simpa [ints] using h1
            · obtain rfl : j = s := by have := HJ.out; omega
              go_wp2
              go_ret
              exact ⟨_, rfl, HO.out, hC2⟩

theorem without_app (l : List Int) (x : Int) (a c : Nat) : without (l ++ [x]) a c = without l a c ++ if l.length < a ∨ a + c ≤ l.length then [x] else [] := by
  unfold without
  rw [List.take_append, List.drop_append]
  by_cases h1 : l.length < a
  · rw [if_pos (.inl h1), List.drop_of_length_le (show l.length ≤ a + c by omega)]
    obtain ⟨d, hd⟩ : ∃ d, a - l.length = d + 1 := ⟨a - l.length - 1, by omega⟩
    obtain ⟨d2, hd2⟩ : ∃ d, a + c - l.length = d + 1 := ⟨a + c - l.length - 1, by omega⟩
    rw [hd, hd2]; simp
  · rw [show a - l.length = 0 by omega]
    by_cases h2 : a + c ≤ l.length
    · rw [if_pos (.inr h2), show a + c - l.length = 0 by omega]; simp
    · obtain ⟨d2, hd2⟩ : ∃ d, a + c - l.length = d + 1 := ⟨a + c - l.length - 1, by omega⟩
      rw [if_neg (by omega), hd2]; simp
theorem woF_snoc (zs : List Int) (f c : Int) (k : Nat) (x : Int) (h : zs[k]? = some x) : woF (zs.take (k + 1)) f c = woF (zs.take k) f c ++ if (k : Int) < f ∨ c ≤ (k : Int) - f ∨ f < 0 then [x] else [] := by
  have hk := (List.getElem?_eq_some_iff.1 h).1
  have ht : zs.take (k + 1) = zs.take k ++ [x] := by rw [List.take_add_one, h]; rfl
  have hl : (zs.take k).length = k := by rw [List.length_take]; omega
  unfold woF
  by_cases h1 : f < 0 ∨ c ≤ 0
  · rw [if_pos h1, if_pos h1, if_pos (by omega), ht]
  · rw [if_neg h1, if_neg h1, ht, without_app, hl]
    congr 1
    by_cases h2 : k < f.toNat ∨ f.toNat + c.toNat ≤ k
    · rw [if_pos h2, if_pos (by omega)]
    · rw [if_neg h2, if_neg (by omega)]

set_option maxHeartbeats 1000000 in
set_option maxRecDepth 100000 in
theorem sh_without (S : Nat → Prop) (v : Value) (zs : List Int) (w : World) (f c : Int) (h : Sl w S 1 v zs.length (ints zs)) (hl : zs.length ≤ 100000) (hf1 : -9223372036854775808 ≤ f) (hf2 : f ≤ 9223372036854775807) (hc1 : -9223372036854775808 ≤ c) (hc2 : c ≤ 9223372036854775807) :
    Calls Try.prog 43 #[v, .int .i64 f, .int .i64 c] w (RetV fun v' w' => Own w' (fun q => w.heap.size ≤ q) 3 1 v' (woF zs f c).length (ints (woF zs f c)) ∧ Chg NoB w w') := by
  obtain ⟨i0, hi0, hz0, hz1, hz2⟩ := info_parts n_elem
  obtain ⟨p1, c1, rfl, hn1, hcell⟩ := h.shape
  have HF1 := Lib.hid hf1
  have HF2 := Lib.hid hf2
  clear h
  go_enter Try.func43, Try.ntmps43
  go_wp2
  go_loopg [7, 12] zs.length (fun m o ix wr => ∃ k : Nat, k + m = zs.length ∧ ix = .int .i64 k ∧ Own wr (fun q => w.heap.size ≤ q) 3 1 o (woF (zs.take k) f c).length (ints (woF (zs.take k) f c)) ∧ Chg NoB w wr)
  case atStart => exact ⟨0, by omega, rfl, by
    rw [List.take_zero]
    have : woF ([] : List Int) f c = [] := by (unfold woF without; split <;> simp)
    rw [this]; exact Own.nil _ _ _ _, Chg.refl _ _⟩
  case round =>
    obtain ⟨k, hk, rfl, hO, hC⟩ := hrel
    have HK := Lib.hid hk
    have HO := Lib.hid hO
    have hkl : k ≤ zs.length := by omega
    clear hk hO
    by_cases hlt : k < zs.length
    · obtain ⟨g, off, rfl, -, hg, q⟩ := hcell (by omega)
      obtain ⟨x, hx⟩ : ∃ x, zs[k]? = some x := ⟨zs[k], by simp [hlt]⟩
      have e1 := hC.cell (q k _ (ints_at hx)) id
      have hsn := woF_snoc zs f c k x hx
      have l0 : (0 : Int) ≤ k := by omega
      have l1 : (k : Int) < zs.length := by omega
      have hwl : (woF (zs.take k) f c).length ≤ 100000 := by
        unfold woF
        split
        · rw [List.length_take]; omega
        · exact Nat.le_trans (without_len_le _ _ _) (by rw [List.length_take]; omega)
      generalize hW : woF (zs.take k) f c = W at *
      have HSN := Lib.hid hsn
      clear hcell q hx hsn hW
      have A3 := (Chg.refl NoB wr).alloc (.cells #[.int .i64 x] 3)
      have oA := HO.out.chg0 A3
      have sA : Sl (wr.alloc (.cells #[.int .i64 x] 3)) _ 1 (.slice (some ⟨wr.heap.size, 0, none⟩) 1 1) 1 [.int .i64 x] := Sl.fresh wr [.int .i64 x] 3 1 rfl
      have one1 : ∀ u ∈ [Value.int .i64 x], u.oneCell' = true := by simp [Value.oneCell']
      have b1 : W.length + 1 ≤ maxLen := by unfold maxLen; omega
      have b2 : (W.length + 1) * 8 ≤ 140737488355328 := by omega
      have hz := hC.size
      have hOB := HO.out.ownBlock
      by_cases hf0 : f < 0
      · have d3 : decide (f < 0) = true := by simpa using hf0
        have hkf : ¬ (k : Int) < f := by omega
        have hP : (k : Int) < f ∨ c ≤ (k : Int) - f ∨ f < 0 := .inr (.inr hf0)
        by_cases hw : c ≤ wrap64 ((k : Int) - f)
        · have d2 : decide (c ≤ wrap64 ((k : Int) - f)) = true := by simpa using hw
          have HP := Lib.hid hP
          clear hP
          go_wp2_with (at_builtin; go_must (refine wpList_app rfl _ _ 47 rfl i0 _ 8 Try.underlying47 hi0 hz0 hz1 hz2 rfl rfl oA _ 1 _ rfl sA one1 b1 b2 ?_))
          intro v8 w8 o8 g8 _
          have C8 : Chg NoB w w8 := (hC.step A3).grown g8 (fun k hk => .inr (hOB k hk).1)
          have o9 : Own w8 (fun q => w.heap.size ≤ q) 3 1 v8 (woF (zs.take (k + 1)) f c).length (ints (woF (zs.take (k + 1)) f c)) := by
            rw [HSN.out, if_pos HP.out, List.length_append]
            simp only [ints, List.map_append, List.map_cons, List.map_nil]
            exact o8.mono fun q h => h.elim (fun h => (hOB q h).1) (fun h => by show w.heap.size ≤ q; rw [h]; first | exact hz | exact Nat.le_succ_of_le hz)
          clear o8 oA sA one1 b1 b2 g8 A3
          go_wp2_with fail
          go_roundg (zs.length - (k + 1))
          case measure => have := HK.out; omega
          case rel => exact ⟨k + 1, by omega, by go_num, o9, C8⟩
        · have d2 : decide (c ≤ wrap64 ((k : Int) - f)) = false := by simpa using hw
          have HP := Lib.hid hP
          clear hP
          go_wp2_with (at_builtin; go_must (refine wpList_app rfl _ _ 47 rfl i0 _ 8 Try.underlying47 hi0 hz0 hz1 hz2 rfl rfl oA _ 1 _ rfl sA one1 b1 b2 ?_))
          intro v8 w8 o8 g8 _
          have C8 : Chg NoB w w8 := (hC.step A3).grown g8 (fun k hk => .inr (hOB k hk).1)
          have o9 : Own w8 (fun q => w.heap.size ≤ q) 3 1 v8 (woF (zs.take (k + 1)) f c).length (ints (woF (zs.take (k + 1)) f c)) := by
            rw [HSN.out, if_pos HP.out, List.length_append]
            simp only [ints, List.map_append, List.map_cons, List.map_nil]
            exact o8.mono fun q h => h.elim (fun h => (hOB q h).1) (fun h => by show w.heap.size ≤ q; rw [h]; first | exact hz | exact Nat.le_succ_of_le hz)
          clear o8 oA sA one1 b1 b2 g8 A3
          go_wp2_with fail
          go_roundg (zs.length - (k + 1))
          case measure => have := HK.out; omega
          case rel => exact ⟨k + 1, by omega, by go_num, o9, C8⟩
      · have d3 : decide (f < 0) = false := by simpa using hf0
        by_cases hkf : (k : Int) < f
        · have d1 : decide ((k : Int) < f) = true := by simpa using hkf
          have hP : (k : Int) < f ∨ c ≤ (k : Int) - f ∨ f < 0 := .inl hkf
          have HP := Lib.hid hP
          clear hP
          go_wp2_with (at_builtin; go_must (refine wpList_app rfl _ _ 47 rfl i0 _ 8 Try.underlying47 hi0 hz0 hz1 hz2 rfl rfl oA _ 1 _ rfl sA one1 b1 b2 ?_))
          intro v8 w8 o8 g8 _
          have C8 : Chg NoB w w8 := (hC.step A3).grown g8 (fun k hk => .inr (hOB k hk).1)
          have o9 : Own w8 (fun q => w.heap.size ≤ q) 3 1 v8 (woF (zs.take (k + 1)) f c).length (ints (woF (zs.take (k + 1)) f c)) := by
            rw [HSN.out, if_pos HP.out, List.length_append]
            simp only [ints, List.map_append, List.map_cons, List.map_nil]
            exact o8.mono fun q h => h.elim (fun h => (hOB q h).1) (fun h => by show w.heap.size ≤ q; rw [h]; first | exact hz | exact Nat.le_succ_of_le hz)
          clear o8 oA sA one1 b1 b2 g8 A3
          go_wp2_with fail
          go_roundg (zs.length - (k + 1))
          case measure => have := HK.out; omega
          case rel => exact ⟨k + 1, by omega, by go_num, o9, C8⟩
        · have d1 : decide ((k : Int) < f) = false := by simpa using hkf
          by_cases hcf : c ≤ (k : Int) - f
          · have d2 : decide (c ≤ (k : Int) - f) = true := by simpa using hcf
            have hP : (k : Int) < f ∨ c ≤ (k : Int) - f ∨ f < 0 := .inr (.inl hcf)
            have HP := Lib.hid hP
            clear hP
            go_wp2_with (at_builtin; go_must (refine wpList_app rfl _ _ 47 rfl i0 _ 8 Try.underlying47 hi0 hz0 hz1 hz2 rfl rfl oA _ 1 _ rfl sA one1 b1 b2 ?_))
            intro v8 w8 o8 g8 _
            have C8 : Chg NoB w w8 := (hC.step A3).grown g8 (fun k hk => .inr (hOB k hk).1)
            have o9 : Own w8 (fun q => w.heap.size ≤ q) 3 1 v8 (woF (zs.take (k + 1)) f c).length (ints (woF (zs.take (k + 1)) f c)) := by
              rw [HSN.out, if_pos HP.out, List.length_append]
              simp only [ints, List.map_append, List.map_cons, List.map_nil]
              exact o8.mono fun q h => h.elim (fun h => (hOB q h).1) (fun h => by show w.heap.size ≤ q; rw [h]; first | exact hz | exact Nat.le_succ_of_le hz)
            clear o8 oA sA one1 b1 b2 g8 A3
            go_wp2_with fail
            go_roundg (zs.length - (k + 1))
            case measure => have := HK.out; omega
            case rel => exact ⟨k + 1, by omega, by go_num, o9, C8⟩
          · have d2 : decide (c ≤ (k : Int) - f) = false := by simpa using hcf
            have hP : ¬ ((k : Int) < f ∨ c ≤ (k : Int) - f ∨ f < 0) := by omega
            have HP := Lib.hid hP
            clear hP oA sA one1 b1 b2 A3
            go_wp2_with fail
            go_roundg (zs.length - (k + 1))
            case measure => have := HK.out; omega
            case rel => exact ⟨k + 1, by omega, by go_num, by rw [HSN.out, if_neg HP.out, List.append_nil]; exact HO.out, hC⟩
    · obtain rfl : k = zs.length := by omega
      have h0 := HO.out
      rw [List.take_length] at h0
      clear hcell
      go_wp2
      go_ret
      exact ⟨_, rfl, h0, hC⟩
end Go.Proofs.Ytokigldggkkbcaa
