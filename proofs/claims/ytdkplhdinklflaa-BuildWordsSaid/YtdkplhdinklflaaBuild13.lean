/- Places of words. No condition. -/
import Derived.Test.YtdkplhdinklflaaBuild11
set_option linter.unusedVariables false
namespace Go.Proofs.Ytdkplhdinklflaa
open Go.RowKit Go.RR

theorem INTinfo : (Try.prog.info? 3).map (fun i => (i.zero, i.size, i.bytes)) = some (some (.int .i64 0), 1, 8) := by kernel_rfl

def placesL (imm : Int) (n : Nat) : List Int := (List.range n).map fun i : Nat => imm + 8 * (i : Int)
theorem placesL_succ (imm : Int) (n : Nat) : placesL imm (n + 1) = placesL imm n ++ [imm + 8 * (n : Int)] := by unfold placesL; rw [List.range_succ, List.map_append]; rfl
theorem placesL_len (imm : Int) (n : Nat) : (placesL imm n).length = n := by unfold placesL; simp
theorem placesL_at (imm : Int) (n k : Nat) (h : k < n) : (placesL imm n)[k]? = some (imm + 8 * (k : Int)) := by unfold placesL; simp [h]
def placesB (base imm n : Int) : Bool := ownB base && decide (0 ≤ n) && decide (n ≤ 200) && fitsB imm && (decide (n = 0) || fitsB (imm + 8 * (n - 1)))
def placesF (base imm n : Int) : List Int := if placesB base imm n = true then placesL imm n.toNat else []
theorem placesB_no {base imm n : Int} (h : ownB base = false ∨ n < 0 ∨ 200 < n ∨ fitsB imm = false ∨ (1 ≤ n ∧ fitsB (imm + 8 * (n - 1)) = false)) : placesB base imm n = false := by
  unfold placesB
  rcases h with h | h | h | h | ⟨h, h'⟩
  · simp [h]
  · have : ¬ 0 ≤ n := by omega
    simp [this]
  · have : ¬ n ≤ 200 := by omega
    simp [this]
  · simp [h]
  · have : ¬ n = 0 := by omega
    simp [this, h']
theorem placesB_yes {base imm n : Int} (h1 : ownB base = true) (h2 : 0 ≤ n) (h3 : n ≤ 200) (h4 : fitsB imm = true) (h5 : n = 0 ∨ fitsB (imm + 8 * (n - 1)) = true) : placesB base imm n = true := by
  unfold placesB
  have : (decide (n = 0) || fitsB (imm + 8 * (n - 1))) = true := by rcases h5 with h5 | h5 <;> simp [h5]
  simp [h1, h2, h3, h4, this]
theorem fitsB_in {n : Int} (h : fitsB n = true) : -2048 ≤ n ∧ n ≤ 2047 := by unfold fitsB at h; simpa using h
theorem fitsB_no {n : Int} (h : n < -2048 ∨ 2047 < n) : fitsB n = false := by unfold fitsB; simp; omega
theorem fitsB_yes {n : Int} (h1 : -2048 ≤ n) (h2 : n ≤ 2047) : fitsB n = true := by unfold fitsB; simp; omega

/-- A list of integers that a call has made, with a word whether it is one. -/
def RetI (b : Bool) (l : List Int) (w : World) (e : Ending) (w' : World) : Prop := ∃ v, e = .returned (.tuple #[v, .bool b]) ∧ Own w' (fun k => w.heap.size ≤ k) 3 1 v l.length (l.map (Value.int .i64)) ∧ Chg NoB w w'


set_option maxHeartbeats 4000000 in
set_option maxRecDepth 100000 in
theorem words_any (base imm n : Int) (w : World) (hb : -9223372036854775808 ≤ n ∧ n ≤ 9223372036854775807) : Calls Try.prog 72 #[.int .i64 base, .int .i64 imm, .int .i64 n] w (RetI (placesB base imm n) (placesF base imm n) w) := by
  obtain ⟨i0, hi0, hz0, hz1, hz2⟩ := info_parts INTinfo
  have HI := Lib.hid (And.intro hi0 (And.intro hz0 (And.intro hz1 hz2)))
  clear hi0 hz0 hz1 hz2
  obtain ⟨b1, h1⟩ : ∃ x, ownB base = x := ⟨_, rfl⟩
  have H1 := Lib.hid h1
  obtain ⟨b4, h4⟩ : ∃ x, fitsB imm = x := ⟨_, rfl⟩
  have H4 := Lib.hid h4
  clear h1 h4
  go_enter Try.func72, Try.ntmps72
  go_wp2_with fail
  refine (own_any base _).mono ?_
  rintro e w1 ⟨rfl, rfl⟩
  rw [H1.out]
  cases b1
  ·
    go_wp2_with fail
    go_ret2
    exact ⟨_, by rw [placesB_no (.inl H1.out)]; rfl, by unfold placesF; rw [placesB_no (.inl H1.out)]; exact Own.nil _ _ _ _, Chg.refl _ _⟩
  · by_cases h2 : n < 0
    · have t2 : decide (n < 0) = true := by simp; omega
      have H2 := Lib.hid h2
      clear h2 hb
      go_wp2_with fail
      go_ret2
      exact ⟨_, by rw [placesB_no (.inr (.inl H2.out))]; rfl, by unfold placesF; rw [placesB_no (.inr (.inl H2.out))]; exact Own.nil _ _ _ _, Chg.refl _ _⟩
    · have t2 : decide (n < 0) = false := by simp; omega
      by_cases h3 : 200 < n
      · have t3 : decide (200 < n) = true := by simp; omega
        have H3 := Lib.hid h3
        clear h2 h3 hb
        go_wp2_with fail
        go_ret2
        exact ⟨_, by rw [placesB_no (.inr (.inr (.inl H3.out)))]; rfl, by unfold placesF; rw [placesB_no (.inr (.inr (.inl H3.out)))]; exact Own.nil _ _ _ _, Chg.refl _ _⟩
      · have t3 : decide (200 < n) = false := by simp; omega
        obtain ⟨k, rfl⟩ := Int.eq_ofNat_of_zero_le (by omega : 0 ≤ n)
        have hk : k ≤ 200 := by omega
        clear h2 h3 hb
        go_wp2_with fail
        refine (fits_any imm _).mono ?_
        rintro e w1 ⟨rfl, rfl⟩
        rw [H4.out]
        cases b4
        ·
          go_wp2_with fail
          go_ret2
          exact ⟨_, by rw [placesB_no (.inr (.inr (.inr (.inl H4.out))))]; rfl, by unfold placesF; rw [placesB_no (.inr (.inr (.inr (.inl H4.out))))]; exact Own.nil _ _ _ _, Chg.refl _ _⟩
        · obtain ⟨hm1, hm2⟩ := fitsB_in H4.out
          by_cases hk0 : k = 0
          · subst hk0
            go_wp2_with fail
            refine (fits_any imm _).mono ?_
            rintro e w1 ⟨rfl, rfl⟩
            rw [H4.out]
            go_wp2_with fail
            go_loopg [8, 37] 0 (fun m nv ix wr => m = 0 ∧ nv = .slice none 0 0 ∧ ix = .int .i64 0 ∧ wr = w)
            case atStart => exact ⟨rfl, rfl, rfl, rfl⟩
            case round =>
              obtain ⟨hm, rfl, rfl, rfl⟩ := hrel
              clear hm
              go_wp2_with fail
              go_ret2
              have e := placesB_yes (n := ((0 : Nat) : Int)) H1.out (by omega) (by omega) H4.out (.inl rfl)
              exact ⟨_, by rw [e]; rfl, by unfold placesF; rw [if_pos e]; exact Own.nil _ _ _ _, Chg.refl _ _⟩
          · have k1 : (1 : Int) ≤ k := by omega
            have q0 : decide ((k : Int) - 1 < 0) = false := by simp; omega
            have K0 := Lib.hid hk0
            obtain ⟨b5, h5⟩ : ∃ x, fitsB (imm + 8 * ((k : Int) - 1)) = x := ⟨_, rfl⟩
            have H5 := Lib.hid h5
            clear hk0 h5
            go_wp2_with fail
            refine (fits_any _ _).mono ?_
            rintro e w1 ⟨rfl, rfl⟩
            rw [H5.out]
            cases b5
            ·
              go_wp2_with fail
              go_ret2
              exact ⟨_, by rw [placesB_no (.inr (.inr (.inr (.inr ⟨by omega, H5.out⟩))))]; rfl, by unfold placesF; rw [placesB_no (.inr (.inr (.inr (.inr ⟨by omega, H5.out⟩))))]; exact Own.nil _ _ _ _, Chg.refl _ _⟩
            · have hy := placesB_yes (n := (k : Int)) H1.out (by omega) (by omega) H4.out (.inr H5.out)
              have HYES := Lib.hid hy
              clear hy
              go_wp2_with fail
              go_loopg [8, 37] k (fun m nv ix wr => ∃ j : Nat, j + m = k ∧ ix = .int .i64 j ∧ Own wr (fun q => w.heap.size ≤ q) 3 1 nv j ((placesL imm j).map (Value.int .i64)) ∧ Chg NoB w wr)
              case atStart => exact ⟨0, by omega, rfl, Own.nil _ _ _ _, Chg.refl _ _⟩
              case round =>
                obtain ⟨j, hj, rfl, hO, hC⟩ := hrel
                have HJ := Lib.hid hj
                have hjl : j ≤ k := by omega
                clear hj
                by_cases hlt : j < k
                · have hsc := placesL_succ imm j
                  generalize hF : placesL imm j = F at *
                  clear hF
                  have HX := Lib.hid hsc
                  obtain ⟨pa, ca, e⟩ := hO.form
                  subst e
                  have j0 : (0 : Int) ≤ j := by omega
                  have D3 := (Chg.refl NoB wr).alloc (.cells #[.int .i64 (imm + 8 * (j : Int))] 3)
                  have oA := hO.chg0 D3
                  have hC3 := hC.step D3
                  have sB := (Sl.fresh (size := 1) wr [.int .i64 (imm + 8 * (j : Int))] 3 1 rfl)
                  have one1 : ∀ u ∈ [Value.int .i64 (imm + 8 * (j : Int))], u.oneCell' = true := by simp [Value.oneCell']
                  have b1 : j + 1 ≤ maxLen := by unfold maxLen; omega
                  have b2 : (j + 1) * 8 ≤ 140737488355328 := by omega
                  have HOB := Lib.hid oA.ownBlock
                  have HC3 := Lib.hid hC3
                  obtain ⟨hi0, hz0, hz1, hz2⟩ := HI.out
                  clear hsc hC hC3 hO D3
                  go_wp2_with (at_builtin; go_must (refine wpList_app rfl _ _ 47 rfl i0 _ 8 Try.underlying47 hi0 hz0 hz1 hz2 rfl rfl oA _ 1 _ rfl sB one1 b1 b2 ?_))
                  intro v4 w4 o4 g4 _
                  have C4 := HC3.out.grown g4 (fun q hq => .inr (HOB.out q hq).1)
                  have O4 : Own w4 (fun q => w.heap.size ≤ q) 3 1 v4 (j + 1) ((F ++ [imm + 8 * (j : Int)]).map (Value.int .i64)) := by
                    rw [List.map_append]
                    exact o4.mono fun q hq => hq.elim (fun h => (HOB.out q h).1) (fun h => by have := HC3.out.size; simp at h this; omega)
                  have HO4 := Lib.hid O4
                  have HC4 := Lib.hid C4
                  clear o4 g4 oA sB one1 b1 b2 hi0 hz0 hz1 hz2 O4 C4
                  go_wp2_with fail
                  go_roundg (k - (j + 1))
                  case measure => have := HJ.out; omega
                  case rel => exact ⟨j + 1, by have := HJ.out; omega, by go_num, by rw [HX.out]; exact HO4.out, HC4.out⟩
                · obtain rfl : j = k := by omega
                  have HO := Lib.hid hO
                  have HC := Lib.hid hC
                  clear hO hC
                  go_wp2_with fail
                  go_ret2
                  exact ⟨_, by rw [HYES.out]; rfl, by unfold placesF; rw [if_pos HYES.out, Int.toNat_natCast, placesL_len]; exact HO.out, HC.out⟩

theorem placesB_out {base imm n : Int} {j : Nat} (hj : (j : Int) < n) (h : 2047 < imm + 8 * (j : Int)) : placesB base imm n = false :=
  placesB_no (.inr (.inr (.inr (.inr ⟨by omega, fitsB_no (.inr (by omega))⟩))))
set_option maxHeartbeats 4000000 in
set_option maxRecDepth 100000 in
theorem places_any (base imm n : Int) (w : World) (hb : -9223372036854775808 ≤ n ∧ n ≤ 9223372036854775807) : Calls Try.prog 73 #[.int .i64 base, .int .i64 imm, .int .i64 n] w (RetI (placesB base imm n) (placesF base imm n) w) := by
  obtain ⟨i0, hi0, hz0, hz1, hz2⟩ := info_parts INTinfo
  have HI := Lib.hid (And.intro hi0 (And.intro hz0 (And.intro hz1 hz2)))
  clear hi0 hz0 hz1 hz2
  by_cases h1 : base < 1
  · have t1 : decide (base < 1) = true := by simp; omega
    have H := Lib.hid h1
    clear h1 hb
    go_enter Try.func73, Try.ntmps73
    go_wp2_with fail
    go_ret2
    exact ⟨_, by rw [placesB_no (.inl (ownB_no (.inl H.out)))]; rfl, by unfold placesF; rw [placesB_no (.inl (ownB_no (.inl H.out)))]; exact Own.nil _ _ _ _, Chg.refl _ _⟩
  · have t1 : decide (base < 1) = false := by simp; omega
    by_cases h1' : 15 < base
    · have t1' : decide (15 < base) = true := by simp; omega
      have H := Lib.hid h1'
      clear h1 h1' hb
      go_enter Try.func73, Try.ntmps73
      go_wp2_with fail
      go_ret2
      exact ⟨_, by rw [placesB_no (.inl (ownB_no (.inr H.out)))]; rfl, by unfold placesF; rw [placesB_no (.inl (ownB_no (.inr H.out)))]; exact Own.nil _ _ _ _, Chg.refl _ _⟩
    · have t1' : decide (15 < base) = false := by simp; omega
      have H1 := Lib.hid (ownB_yes (n := base) (by omega) (by omega))
      clear h1 h1'
      by_cases h2 : n < 0
      · have t2 : decide (n < 0) = true := by simp; omega
        have H := Lib.hid h2
        clear h2 hb
        go_enter Try.func73, Try.ntmps73
        go_wp2_with fail
        go_ret2
        exact ⟨_, by rw [placesB_no (.inr (.inl H.out))]; rfl, by unfold placesF; rw [placesB_no (.inr (.inl H.out))]; exact Own.nil _ _ _ _, Chg.refl _ _⟩
      · have t2 : decide (n < 0) = false := by simp; omega
        by_cases h3 : 200 < n
        · have t3 : decide (200 < n) = true := by simp; omega
          have H := Lib.hid h3
          clear h2 h3 hb
          go_enter Try.func73, Try.ntmps73
          go_wp2_with fail
          go_ret2
          exact ⟨_, by rw [placesB_no (.inr (.inr (.inl H.out)))]; rfl, by unfold placesF; rw [placesB_no (.inr (.inr (.inl H.out)))]; exact Own.nil _ _ _ _, Chg.refl _ _⟩
        · have t3 : decide (200 < n) = false := by simp; omega
          by_cases h4 : imm < -2048
          · have t4 : decide (imm < -2048) = true := by simp; omega
            have H := Lib.hid h4
            clear h2 h3 h4 hb
            go_enter Try.func73, Try.ntmps73
            go_wp2_with fail
            go_ret2
            exact ⟨_, by rw [placesB_no (.inr (.inr (.inr (.inl (fitsB_no (.inl H.out))))))]; rfl, by unfold placesF; rw [placesB_no (.inr (.inr (.inr (.inl (fitsB_no (.inl H.out))))))]; exact Own.nil _ _ _ _, Chg.refl _ _⟩
          · have t4 : decide (imm < -2048) = false := by simp; omega
            by_cases h5 : 2047 < imm
            · have t5 : decide (2047 < imm) = true := by simp; omega
              have H := Lib.hid h5
              clear h2 h3 h4 h5 hb
              go_enter Try.func73, Try.ntmps73
              go_wp2_with fail
              go_ret2
              exact ⟨_, by rw [placesB_no (.inr (.inr (.inr (.inl (fitsB_no (.inr H.out))))))]; rfl, by unfold placesF; rw [placesB_no (.inr (.inr (.inr (.inl (fitsB_no (.inr H.out))))))]; exact Own.nil _ _ _ _, Chg.refl _ _⟩
            · have t5 : decide (2047 < imm) = false := by simp; omega
              have hm1 : -2048 ≤ imm := by omega
              have hm2 : imm ≤ 2047 := by omega
              have H4 := Lib.hid (fitsB_yes hm1 hm2)
              obtain ⟨k, rfl⟩ := Int.eq_ofNat_of_zero_le (by omega : 0 ≤ n)
              have hk : k ≤ 200 := by omega
              clear h2 h3 h4 h5 hb
              go_enter Try.func73, Try.ntmps73
              go_wp2_with fail
              go_loopg [8, 9] k (fun m nv ix wr => ∃ j : Nat, j + m = k ∧ ix = .int .i64 j ∧ Own wr (fun q => w.heap.size ≤ q) 3 1 nv j ((placesL imm j).map (Value.int .i64)) ∧ Chg NoB w wr ∧ (j = 0 ∨ imm + 8 * ((j : Int) - 1) ≤ 2047))
              case atStart => exact ⟨0, by omega, rfl, Own.nil _ _ _ _, Chg.refl _ _, .inl rfl⟩
              case round =>
                obtain ⟨j, hj, rfl, hO, hC, hle⟩ := hrel
                have HJ := Lib.hid hj
                have hjl : j ≤ k := by omega
                have HLE := Lib.hid hle
                clear hj hle
                by_cases hlt : j < k
                · by_cases hbig : 2047 < imm + 8 * (j : Int)
                  · have q0 : decide (2047 < imm + 8 * (j : Int)) = true := by simp; omega
                    have H := Lib.hid (placesB_out (base := base) (n := (k : Int)) (by omega) hbig)
                    have HC := Lib.hid hC
                    clear hbig hC hO
                    go_wp2_with fail
                    go_ret2
                    exact ⟨_, by rw [H.out]; rfl, by unfold placesF; rw [H.out]; exact Own.nil _ _ _ _, HC.out⟩
                  · have q0 : decide (2047 < imm + 8 * (j : Int)) = false := by simp; omega
                    have HB := Lib.hid hbig
                    have hsc := placesL_succ imm j
                    clear hbig
                    generalize hF : placesL imm j = F at *
                    clear hF
                    have HX := Lib.hid hsc
                    obtain ⟨pa, ca, e⟩ := hO.form
                    subst e
                    have j0 : (0 : Int) ≤ j := by omega
                    have D3 := (Chg.refl NoB wr).alloc (.cells #[.int .i64 (imm + 8 * (j : Int))] 3)
                    have oA := hO.chg0 D3
                    have hC3 := hC.step D3
                    have sB := (Sl.fresh (size := 1) wr [.int .i64 (imm + 8 * (j : Int))] 3 1 rfl)
                    have one1 : ∀ u ∈ [Value.int .i64 (imm + 8 * (j : Int))], u.oneCell' = true := by simp [Value.oneCell']
                    have b1 : j + 1 ≤ maxLen := by unfold maxLen; omega
                    have b2 : (j + 1) * 8 ≤ 140737488355328 := by omega
                    have HOB := Lib.hid oA.ownBlock
                    have HC3 := Lib.hid hC3
                    obtain ⟨hi0, hz0, hz1, hz2⟩ := HI.out
                    clear hsc hC hC3 hO D3
                    go_wp2_with (at_builtin; go_must (refine wpList_app rfl _ _ 47 rfl i0 _ 8 Try.underlying47 hi0 hz0 hz1 hz2 rfl rfl oA _ 1 _ rfl sB one1 b1 b2 ?_))
                    intro v4 w4 o4 g4 _
                    have C4 := HC3.out.grown g4 (fun q hq => .inr (HOB.out q hq).1)
                    have O4 : Own w4 (fun q => w.heap.size ≤ q) 3 1 v4 (j + 1) ((F ++ [imm + 8 * (j : Int)]).map (Value.int .i64)) := by
                      rw [List.map_append]
                      exact o4.mono fun q hq => hq.elim (fun h => (HOB.out q h).1) (fun h => by have := HC3.out.size; simp at h this; omega)
                    have HO4 := Lib.hid O4
                    have HC4 := Lib.hid C4
                    clear o4 g4 oA sB one1 b1 b2 hi0 hz0 hz1 hz2 O4 C4
                    go_wp2_with fail
                    go_roundg (k - (j + 1))
                    case measure => have := HJ.out; omega
                    case rel => exact ⟨j + 1, by have := HJ.out; omega, by go_num, by rw [HX.out]; exact HO4.out, HC4.out, .inr (by have := HB.out; omega)⟩
                · obtain rfl : j = k := by omega
                  have hy := placesB_yes (n := (j : Int)) H1.out (by omega) (by omega) H4.out (by
                    rcases HLE.out with h | h
                    · left; omega
                    · by_cases h0 : j = 0
                      · left; omega
                      · right; exact fitsB_yes (by omega) h)
                  have HYES := Lib.hid hy
                  have HO := Lib.hid hO
                  have HC := Lib.hid hC
                  clear hO hC hy
                  go_wp2_with fail
                  go_ret2
                  exact ⟨_, by rw [HYES.out]; rfl, by unfold placesF; rw [if_pos HYES.out, Int.toNat_natCast, placesL_len]; exact HO.out, HC.out⟩
end Go.Proofs.Ytdkplhdinklflaa
