/- What may follow, by the program. No condition. -/
import Derived.Test.YtdkplhdinklflaaFlow4
set_option linter.unusedVariables false
set_option linter.unusedSimpArgs false
namespace Go.Proofs.Ytdkplhdinklflaa
open Go.RowKit Go.RR Go.Sort

theorem endF_id {n : Nat} {x : Int} (h0 : 0 ≤ x) (h1 : x ≤ n) : endF n x = x := by unfold endF; rw [if_neg (by omega)]


theorem Own.fresh2 (W : World) (l : List Int) (b n : Nat) (hb : W.heap.size = b) (hn : l.length = n) (hl : n ≤ 1000) : Own (W.alloc (.cells (l.map (Value.int .i64)).toArray 3)) (fun k => k = b) 3 1 (.slice (some ⟨b, 0, none⟩) n n) l.length (l.map (Value.int .i64)) := by
  subst hb hn
  exact Own.fresh1 W l hl

set_option maxHeartbeats 1000000 in
set_option maxRecDepth 100000 in
theorem next_halt {p : Option Addr} {cap n : Nat} {l : List In} {i : In} {w : World} (HI : InsAt w p cap l) (HL : Hid (l[n]? = some i)) (hl : l.length ≤ 40) (qJ : ((kd i.op).s.toList == [74]) = false) (qB : ((kd i.op).s.toList == [66]) = false) (q3 : (i.op != 0) = false) (pf : Hid (follow l.length n i = [])) :
    Calls Try.prog 36 #[.slice p l.length cap, .int .i64 n] w (RetSl fun y w' => IAtN w.heap.size w' y (nextF l n) ∧ Chg NoB w w') := by
  obtain ⟨g, of, rfl, hg, x0, x1, x2, x3, x4⟩ := HI.at HL.out
  have hcap := HI.cap
  have hlt : n < l.length := (List.getElem?_eq_some_iff.1 HL.out).1
  have t0 : decide ((n : Int) < 0) = false := by simp
  have t1 : decide ((l.length : Int) ≤ n) = false := by simp; omega
  have t1' : decide (l.length ≤ n) = false := by simp; omega
  have A1 := Lib.hid ((Chg.refl NoB w).alloc (.cells #[.int .i64 i.op, .int .i64 i.rd, .int .i64 i.rs, .int .i64 i.rt, .int .i64 i.im] 32))
  obtain ⟨s, hs⟩ : ∃ s, (kd i.op).s = s := ⟨_, rfl⟩
  rw [hs] at qJ qB
  have HS := Lib.hid hs
  clear hs HI
  go_enter Try.func36, Try.ntmps36
  go_wp2_with fail
  refine (kind_any i.op _).mono ?_
  rintro e w1 ⟨rfl, rfl⟩
  rw [HS.out]
  go_wp2_with fail
  refine (isort (S := NoB) (zs := []) (Own.nil _ _ _ _) (by decide)).mono ?_
  rintro e w3 ⟨rfl, O3, C3⟩
  clear O3
  go_wp2_with fail
  refine (icompact (S := NoB) (zs := []) (Own.nil _ _ _ _) (by decide)).mono ?_
  rintro e w4 ⟨v4, rfl, O4, C4⟩
  have HO4 := Lib.hid O4
  have HC4 := Lib.hid (C3.step C4)
  clear O4 C4 C3
  go_wp2_with fail
  go_ret
  have e : nextF l (n : Int) = [] := by rw [nextF_at HL.out]; exact pf.out
  exact ⟨_, rfl, by rw [e]; exact HO4.out.sl.mono fun k hk => hk.elim, A1.out.step HC4.out⟩
set_option maxHeartbeats 1000000 in
set_option maxRecDepth 100000 in
theorem next_on {p : Option Addr} {cap n : Nat} {l : List In} {i : In} {w : World} (HI : InsAt w p cap l) (HL : Hid (l[n]? = some i)) (hl : l.length ≤ 40) (qJ : ((kd i.op).s.toList == [74]) = false) (qB : ((kd i.op).s.toList == [66]) = false) (q3 : (i.op != 0) = true) (pf : Hid (follow l.length n i = [(n : Int) + 1])) :
    Calls Try.prog 36 #[.slice p l.length cap, .int .i64 n] w (RetSl fun y w' => IAtN w.heap.size w' y (nextF l n) ∧ Chg NoB w w') := by
  obtain ⟨g, of, rfl, hg, x0, x1, x2, x3, x4⟩ := HI.at HL.out
  have hcap := HI.cap
  have hlt : n < l.length := (List.getElem?_eq_some_iff.1 HL.out).1
  have t0 : decide ((n : Int) < 0) = false := by simp
  have t1 : decide ((l.length : Int) ≤ n) = false := by simp; omega
  have t1' : decide (l.length ≤ n) = false := by simp; omega
  have A1 := Lib.hid ((Chg.refl NoB w).alloc (.cells #[.int .i64 i.op, .int .i64 i.rd, .int .i64 i.rs, .int .i64 i.rt, .int .i64 i.im] 32))
  obtain ⟨s, hs⟩ : ∃ s, (kd i.op).s = s := ⟨_, rfl⟩
  rw [hs] at qJ qB
  have HS := Lib.hid hs
  clear hs HI
  go_enter Try.func36, Try.ntmps36
  go_wp2_with fail
  refine (kind_any i.op _).mono ?_
  rintro e w1 ⟨rfl, rfl⟩
  rw [HS.out]
  have O2 := Own.fresh2 (w.alloc (.cells #[.int .i64 i.op, .int .i64 i.rd, .int .i64 i.rs, .int .i64 i.rt, .int .i64 i.im] 32)) [(n : Int) + 1] (w.heap.size + 1) 1 (by simp) rfl (by omega)
  have A2 := A1.out.alloc (.cells (([(n : Int) + 1] : List Int).map (Value.int .i64)).toArray 3)
  have hz2 := A1.out.size
  have HA2 := Lib.hid A2
  have HO2 := Lib.hid O2
  clear A2 O2
  go_wp2_with fail
  refine (isort HO2.out (by show 1 ≤ 1000000; omega)).mono ?_
  rintro e w3 ⟨rfl, O3, C3⟩
  have e3 := List.length_mergeSort (le := leZ) ([(n : Int) + 1] : List Int)
  rw [← e3] at O3
  have HO3 := Lib.hid O3
  have HC3 := Lib.hid C3
  clear O3 C3 e3
  go_wp2_with fail
  refine (icompact HO3.out (by rw [List.length_mergeSort]; show 1 ≤ 1000000; omega)).mono ?_
  rintro e w4 ⟨v4, rfl, O4, C4⟩
  have HO4 := Lib.hid O4
  have HC4 := Lib.hid C4
  clear O4 C4
  go_wp2_with fail
  go_ret
  have e : nextF l (n : Int) = Lib.compact (([(n : Int) + 1] : List Int).mergeSort leZ) := by
    rw [nextF_at HL.out]
    rw [ms1, cp1]; exact pf.out
  refine ⟨_, rfl, by rw [e]; exact HO4.out.sl.mono (fun k hk => by have e := hk; omega), (HA2.out.trans HC3.out fun q hq e => ?_).trans HC4.out fun q hq e => ?_⟩
  all_goals (have e := e; omega)
set_option maxHeartbeats 1000000 in
set_option maxRecDepth 100000 in
theorem next_J {p : Option Addr} {cap n : Nat} {l : List In} {i : In} {w : World} (HI : InsAt w p cap l) (HL : Hid (l[n]? = some i)) (hl : l.length ≤ 40) (m0 : -2048 ≤ i.im) (m1 : i.im ≤ 2047) (qJ : ((kd i.op).s.toList == [74]) = true) (qB : ((kd i.op).s.toList == [66]) = false) (pf : Hid (follow l.length n i = [endF l.length (n + i.im)])) :
    Calls Try.prog 36 #[.slice p l.length cap, .int .i64 n] w (RetSl fun y w' => IAtN w.heap.size w' y (nextF l n) ∧ Chg NoB w w') := by
  obtain ⟨g, of, rfl, hg, x0, x1, x2, x3, x4⟩ := HI.at HL.out
  have hcap := HI.cap
  have hlt : n < l.length := (List.getElem?_eq_some_iff.1 HL.out).1
  have t0 : decide ((n : Int) < 0) = false := by simp
  have t1 : decide ((l.length : Int) ≤ n) = false := by simp; omega
  have t1' : decide (l.length ≤ n) = false := by simp; omega
  have A1 := Lib.hid ((Chg.refl NoB w).alloc (.cells #[.int .i64 i.op, .int .i64 i.rd, .int .i64 i.rs, .int .i64 i.rt, .int .i64 i.im] 32))
  obtain ⟨s, hs⟩ : ∃ s, (kd i.op).s = s := ⟨_, rfl⟩
  rw [hs] at qJ qB
  have HS := Lib.hid hs
  clear hs HI
  go_enter Try.func36, Try.ntmps36
  go_wp2_with fail
  refine (kind_any i.op _).mono ?_
  rintro e w1 ⟨rfl, rfl⟩
  rw [HS.out]
  go_wp2_with fail
  refine (end_any _ _ _ _ _ (by omega)).mono ?_
  rintro e w1 ⟨rfl, rfl⟩
  have O2 := Own.fresh2 (w.alloc (.cells #[.int .i64 i.op, .int .i64 i.rd, .int .i64 i.rs, .int .i64 i.rt, .int .i64 i.im] 32)) [endF l.length (n + i.im)] (w.heap.size + 1) 1 (by simp) rfl (by omega)
  have A2 := A1.out.alloc (.cells (([endF l.length (n + i.im)] : List Int).map (Value.int .i64)).toArray 3)
  have hz2 := A1.out.size
  have HA2 := Lib.hid A2
  have HO2 := Lib.hid O2
  clear A2 O2
  go_wp2_with fail
  refine (isort HO2.out (by show 1 ≤ 1000000; omega)).mono ?_
  rintro e w3 ⟨rfl, O3, C3⟩
  have e3 := List.length_mergeSort (le := leZ) ([endF l.length (n + i.im)] : List Int)
  rw [← e3] at O3
  have HO3 := Lib.hid O3
  have HC3 := Lib.hid C3
  clear O3 C3 e3
  go_wp2_with fail
  refine (icompact HO3.out (by rw [List.length_mergeSort]; show 1 ≤ 1000000; omega)).mono ?_
  rintro e w4 ⟨v4, rfl, O4, C4⟩
  have HO4 := Lib.hid O4
  have HC4 := Lib.hid C4
  clear O4 C4
  go_wp2_with fail
  go_ret
  have e : nextF l (n : Int) = Lib.compact (([endF l.length (n + i.im)] : List Int).mergeSort leZ) := by
    rw [nextF_at HL.out]
    rw [ms1, cp1]; exact pf.out
  refine ⟨_, rfl, by rw [e]; exact HO4.out.sl.mono (fun k hk => by have e := hk; omega), (HA2.out.trans HC3.out fun q hq e => ?_).trans HC4.out fun q hq e => ?_⟩
  all_goals (have e := e; omega)
set_option maxHeartbeats 1000000 in
set_option maxRecDepth 100000 in
theorem next_B {p : Option Addr} {cap n : Nat} {l : List In} {i : In} {w : World} (HI : InsAt w p cap l) (HL : Hid (l[n]? = some i)) (hl : l.length ≤ 40) (m0 : -2048 ≤ i.im) (m1 : i.im ≤ 2047) (qJ : ((kd i.op).s.toList == [74]) = false) (qB : ((kd i.op).s.toList == [66]) = true) (pf : Hid (follow l.length n i = Lib.compact ([endF l.length (n + 1), endF l.length (n + i.im)].mergeSort leZ))) :
    Calls Try.prog 36 #[.slice p l.length cap, .int .i64 n] w (RetSl fun y w' => IAtN w.heap.size w' y (nextF l n) ∧ Chg NoB w w') := by
  have s1 : IntKind.i64.wrap ((n : Int) + 1) = n + 1 := IntWalk.i64_in _ (by have := (List.getElem?_eq_some_iff.1 HL.out).1; omega)
  have s2 : IntKind.i64.wrap ((n : Int) + i.im) = n + i.im := IntWalk.i64_in _ (by have := (List.getElem?_eq_some_iff.1 HL.out).1; omega)
  have S1 := Lib.hid s1
  have S2 := Lib.hid s2
  clear s1 s2
  obtain ⟨g, of, rfl, hg, x0, x1, x2, x3, x4⟩ := HI.at HL.out
  have hcap := HI.cap
  have hlt : n < l.length := (List.getElem?_eq_some_iff.1 HL.out).1
  have t0 : decide ((n : Int) < 0) = false := by simp
  have t1 : decide ((l.length : Int) ≤ n) = false := by simp; omega
  have t1' : decide (l.length ≤ n) = false := by simp; omega
  have A1 := Lib.hid ((Chg.refl NoB w).alloc (.cells #[.int .i64 i.op, .int .i64 i.rd, .int .i64 i.rs, .int .i64 i.rt, .int .i64 i.im] 32))
  obtain ⟨s, hs⟩ : ∃ s, (kd i.op).s = s := ⟨_, rfl⟩
  rw [hs] at qJ qB
  have HS := Lib.hid hs
  clear hs HI
  go_enter Try.func36, Try.ntmps36
  go_wp2_with fail
  refine (kind_any i.op _).mono ?_
  rintro e w1 ⟨rfl, rfl⟩
  rw [HS.out]
  go_wp2_with fail
  have s1 := S1.out
  have s2 := S2.out
  refine wp_region_plan 10 [] [0, 1, 2, 3, 4, 5, 6, 7, 8, 9] (by kernel_rfl) (by kernel_rfl) (fun _ _ _ _ _ h => h) ?_
  simp only [pickOps_nil, pickOps_cons, Option.getD_some, List.getElem?_toArray, List.getElem?_cons_zero, List.getElem?_cons_succ, List.cons_append, List.nil_append, List.drop_succ_cons, List.drop_zero]
  repeat (go_big_quiet_step ((go_at_call 76; exact quiet0 (end_any _ _ _ _ _ (by omega)))))
  refine wpQuiet_nil ?_
  intro w2 hw2
  have C2 := Chg.of_ex hw2
  clear hw2
  clear s1 s2
  have AW := Lib.hid (A1.out.step C2)
  have hzw := C2.size
  clear C2
  have O2 := Own.fresh2 w2 [endF l.length (n + 1), endF l.length (n + i.im)] w2.heap.size 2 rfl rfl (by omega)
  have A2 := AW.out.alloc (.cells (([endF l.length (n + 1), endF l.length (n + i.im)] : List Int).map (Value.int .i64)).toArray 3)
  have hz2 := AW.out.size
  have HA2 := Lib.hid A2
  have HO2 := Lib.hid O2
  clear A2 O2
  go_wp2_with fail
  refine (isort HO2.out (by show 2 ≤ 1000000; omega)).mono ?_
  rintro e w3 ⟨rfl, O3, C3⟩
  have e3 := List.length_mergeSort (le := leZ) ([endF l.length (n + 1), endF l.length (n + i.im)] : List Int)
  rw [← e3] at O3
  have HO3 := Lib.hid O3
  have HC3 := Lib.hid C3
  clear O3 C3 e3
  go_wp2_with fail
  refine (icompact HO3.out (by rw [List.length_mergeSort]; show 2 ≤ 1000000; omega)).mono ?_
  rintro e w4 ⟨v4, rfl, O4, C4⟩
  have HO4 := Lib.hid O4
  have HC4 := Lib.hid C4
  clear O4 C4
  go_wp2_with fail
  go_ret
  have e : nextF l (n : Int) = Lib.compact (([endF l.length (n + 1), endF l.length (n + i.im)] : List Int).mergeSort leZ) := by
    rw [nextF_at HL.out]
    exact pf.out
  refine ⟨_, rfl, by rw [e]; exact HO4.out.sl.mono (fun k hk => by have e := hk; omega), (HA2.out.trans HC3.out fun q hq e => ?_).trans HC4.out fun q hq e => ?_⟩
  all_goals (have e := e; omega)

theorem follow_B {len n : Nat} {i : In} (h : kd i.op = .B) (hn : n < len) : follow len n i = Lib.compact ([endF len (n + 1), endF len (n + i.im)].mergeSort leZ) := by
  have e1 : endF len ((n : Int) + 1) = n + 1 := endF_id (by omega) (by omega)
  rw [e1, ms2, follow, if_neg (by rw [h]; decide), if_pos h]
  generalize endF len (n + i.im) = d
  by_cases h1 : d < (n : Int) + 1
  · rw [if_pos h1, if_neg (by omega), cp2, if_neg (by omega)]
  · have h3 : (n : Int) + 1 ≤ d := by omega
    rw [if_neg h1, if_pos h3, cp2]
    by_cases h2 : (n : Int) + 1 < d
    · rw [if_pos h2, if_neg (by omega)]
    · obtain rfl : d = (n : Int) + 1 := by omega
      rw [if_neg h2, if_pos rfl]
set_option maxHeartbeats 1000000 in
set_option maxRecDepth 100000 in
theorem fnext_any (S : Nat → Prop) (v : Value) (l : List In) (x : Int) (w : World) (hs : Sl w S 5 v l.length (icells l)) (hl : l.length ≤ 40) (hr : ∀ i ∈ l, rightB i = true) :
    Calls Try.prog 36 #[v, .int .i64 x] w (RetSl fun y w' => IAtN w.heap.size w' y (nextF l x) ∧ Chg NoB w w') := by
  obtain ⟨p, cap, rfl, HI⟩ := InsAt.of hs (by omega)
  by_cases h0 : x < 0
  · have t0 : decide (x < 0) = true := by simp; omega
    have H := Lib.hid (nextF_out (l := l) (.inl h0))
    clear h0 hs HI
    go_enter Try.func36, Try.ntmps36
    go_wp2_with fail
    go_ret
    exact ⟨_, rfl, by rw [H.out]; exact IAtN.nil _ _, Chg.refl _ _⟩
  · have t0 : decide (x < 0) = false := by simp; omega
    obtain ⟨n, rfl⟩ := Int.eq_ofNat_of_zero_le (by omega : 0 ≤ x)
    by_cases h1 : l.length ≤ n
    · have t1 : decide ((l.length : Int) ≤ n) = true := by simp; omega
      have t1' : decide (l.length ≤ n) = true := by simp; omega
      have H := Lib.hid (nextF_out (l := l) (x := (n : Int)) (.inr (by omega)))
      clear h0 h1 hs HI
      go_enter Try.func36, Try.ntmps36
      go_wp2_with fail
      go_ret
      exact ⟨_, rfl, by rw [H.out]; exact IAtN.nil _ _, Chg.refl _ _⟩
    · have hlt : n < l.length := by omega
      obtain ⟨i, hi⟩ : ∃ i, l[n]? = some i := ⟨l[n], by simp [hlt]⟩
      obtain ⟨m0, m1⟩ := rightB_im (hr i (List.mem_of_getElem? hi))
      by_cases hJ : kd i.op = .J
      · exact next_J HI (Lib.hid hi) hl m0 m1 (by rw [ks_J, hJ]; rfl) (by rw [ks_B, hJ]; rfl) (Lib.hid (by rw [follow, if_pos hJ]))
      · by_cases hB : kd i.op = .B
        · exact next_B HI (Lib.hid hi) hl m0 m1 (by rw [ks_J, hB]; rfl) (by rw [ks_B, hB]; rfl) (Lib.hid (follow_B hB hlt))
        · by_cases hop : i.op = 0
          · exact next_halt HI (Lib.hid hi) hl (by rw [ks_J]; simp [hJ]) (by rw [ks_B]; simp [hB]) (by simp [hop]) (Lib.hid (by rw [follow, if_neg hJ, if_neg hB, if_pos hop]))
          · exact next_on HI (Lib.hid hi) hl (by rw [ks_J]; simp [hJ]) (by rw [ks_B]; simp [hB]) (by simp [hop]) (Lib.hid (by rw [follow, if_neg hJ, if_neg hB, if_neg hop]))
end Go.Proofs.Ytdkplhdinklflaa
