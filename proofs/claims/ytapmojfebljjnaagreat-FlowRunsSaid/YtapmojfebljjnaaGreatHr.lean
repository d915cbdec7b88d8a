/- Sorted slices of integers; what may follow, by the program. No condition. What may follow, by the program. No condition. -/
import Derived.Test.YtapmojfebljjnaaGreatHq
import Derived.Test.YtapmojfebljjnaaGreatSh
import Derived.Lib.SortBridge
set_option linter.unusedVariables false
namespace Go.Proofs.YtapmojfebljjnaaGreat
open Go.RowKit Go.RR Go.Sort

abbrev leZ : Int → Int → Bool := fun x y => decide (x ≤ y)
theorem ms2 (a b : Int) : [a, b].mergeSort leZ = if a ≤ b then [a, b] else [b, a] := by
  by_cases h : a ≤ b <;> simp [List.mergeSort, List.MergeSort.Internal.splitInTwo, h]
theorem ms1 (a : Int) : [a].mergeSort leZ = [a] := by simp
theorem cp1 (a : Int) : Lib.compact [a] = [a] := by
  simp [Lib.compact, Lib.compactUpTo, Lib.keeps, List.range_succ]
theorem cp2 (a b : Int) : Lib.compact [a, b] = if a = b then [a] else [a, b] := by
  by_cases h : a = b
  · simp [Lib.compact, Lib.compactUpTo, Lib.keeps, List.range_succ, h]
  · have h' : ¬ b = a := fun e => h e.symm
    simp [Lib.compact, Lib.compactUpTo, Lib.keeps, List.range_succ, List.filter, h, h']

/-- A block behind the sort's contract. -/
theorem Blk.sorted {w : World} {g off q : Nat} {cur : Array Value} {E : TypeId} {os : Array Obj} (hb : Blk w g cur E) (vs : List Value) (hf : off + vs.length ≤ cur.size) :
    ∃ cur', Blk (grow ((w.drewN q).setCells g off vs) os) g cur' E ∧ cur'.size = cur.size ∧ (∀ j u, vs[j]? = some u → cur'[off + j]? = some u) ∧ (∀ i, i < off ∨ off + vs.length ≤ i → cur'[i]? = cur[i]?) ∧ Chg (· = g) w (grow ((w.drewN q).setCells g off vs) os) := by
  obtain ⟨c', k1, k2, k3, k4, k5, k6, k7, k8, k9⟩ := setCells_blk vs off (w.drewN q) cur hb hf
  have hg := k1.lt
  refine ⟨c', (heap_grow_old _ os hg).trans k1, k2, k3, k4, ⟨k7, k8, k9, ?_, fun k hk hn => ?_⟩⟩
  · show _ ≤ (_ ++ os).size
    rw [Array.size_append, k6]
    exact Nat.le_add_right _ _
  · exact (heap_grow_old _ os (by rw [k6]; exact hk)).trans (k5 k hn)
theorem Own.holds {w : World} {S : Nat → Prop} {g off cap : Nat} {zs : List Int} {cur : Array Value} (hb : Blk w g cur 3) (hc : ∀ j u, (zs.map (Value.int .i64))[j]? = some u → cur[off + j]? = some u) : Holds (Value.int .i64) w g off zs.toArray := by
  intro j hj
  have hj : j < zs.length := by simpa using hj
  refine ⟨hb.cell' (hc j _ ?_), hb.frozen _⟩
  simp [hj]
set_option maxRecDepth 100000 in
theorem isort {S : Nat → Prop} {w : World} {v : Value} {zs : List Int} (h : Own w S 3 1 v zs.length (zs.map (Value.int .i64))) (hz : zs.length ≤ 1000000) :
    Calls Tryz.prog 74 #[v] w (RetW (.tuple #[]) fun w' => Own w' S 3 1 v zs.length ((zs.mergeSort leZ).map (Value.int .i64)) ∧ Chg S w w') := by
  have hlen : (zs.mergeSort leZ).length = zs.length := List.length_mergeSort _
  rcases h.2 with ⟨rfl, h0⟩ | ⟨g, off, cap, cur, rfl, hg, hb, hn, hm, hf, hc⟩
  · obtain rfl : zs = [] := List.eq_nil_of_length_eq_zero h0
    refine (Tryz.slices_Sort_int_none none 0 w).mono ?_
    rintro e w' ⟨rfl, rfl⟩
    exact ⟨rfl, by simpa using Own.nil _ _ _ _, Chg.refl _ _⟩
  · have hH := Own.holds (S := S) (cap := cap) hb hc
    refine (Tryz.slices_Sort_int g off cap zs w hH hb.lt (by omega)).mono ?_
    rintro e w' ⟨rfl, n, os, rfl⟩
    rw [Lib.sorted_world (Value.int .i64) w g off n zs.toArray _ os hH (by simp [hlen])]
    obtain ⟨c', k1, k2, k3, -, k5⟩ := Blk.sorted (q := n) (os := os) (off := off) hb ((zs.mergeSort leZ).map (Value.int .i64)) (by rw [List.length_map, hlen]; omega)
    exact ⟨rfl, ⟨by simp [hlen], .inr ⟨g, off, cap, c', rfl, hg, k1, hn, hm, by omega, k3⟩⟩, k5.mono fun b _ e => by rw [e]; exact hg⟩
set_option maxRecDepth 100000 in
theorem icompact {S : Nat → Prop} {w : World} {v : Value} {zs : List Int} (h : Own w S 3 1 v zs.length (zs.map (Value.int .i64))) (hz : zs.length ≤ 1000000) :
    Calls Tryz.prog 75 #[v] w (RetSl fun v' w' => Own w' S 3 1 v' (Lib.compact zs).length ((Lib.compact zs).map (Value.int .i64)) ∧ Chg S w w') := by
  rcases h.2 with ⟨rfl, h0⟩ | ⟨g, off, cap, cur, rfl, hg, hb, hn, hm, hf, hc⟩
  · obtain rfl : zs = [] := List.eq_nil_of_length_eq_zero h0
    refine (Tryz.slices_Compact_int_empty none 0 w).mono ?_
    rintro e w' ⟨rfl, rfl⟩
    exact ⟨_, rfl, by have : Lib.compact ([] : List Int) = [] := rfl
                      rw [this]; exact Own.nil _ _ _ _, Chg.refl _ _⟩
  · have hH := Own.holds (S := S) (cap := cap) hb hc
    have hle : (Lib.compact zs).length ≤ zs.length := by
      unfold Lib.compact Lib.compactUpTo
      rw [List.length_map]
      exact Nat.le_trans (List.length_filter_le _ _) (by simp)
    refine (Tryz.slices_Compact_int g off cap zs w hH (by omega) hn).mono ?_
    rintro e w' ⟨rfl, q, rfl⟩
    have e1 := Lib.sorted_world (Value.int .i64) w g off q zs.toArray (Lib.compact zs ++ List.replicate (zs.length - (Lib.compact zs).length) 0) #[] hH (by simp; omega)
    rw [grow_empty] at e1
    rw [e1]
    obtain ⟨c', k1, k2, k3, -, k5⟩ := Blk.sorted (q := q) (os := #[]) (off := off) hb ((Lib.compact zs ++ List.replicate (zs.length - (Lib.compact zs).length) 0).map (Value.int .i64)) (by rw [List.length_map, List.length_append, List.length_replicate]; omega)
    refine ⟨_, rfl, ⟨by simp, .inr ⟨g, off, cap, c', rfl, hg, k1, by omega, hm, by omega, fun j u hu => k3 j u ?_⟩⟩, k5.mono fun b _ e => by rw [e]; exact hg⟩
    rw [List.map_append, List.getElem?_append_left (List.getElem?_eq_some_iff.1 hu).1]
    exact hu
theorem Own.ints {w : World} {S : Nat → Prop} {v : Value} {l : List Int} (h : Own w S 3 1 v l.length (l.map (Value.int .i64))) : IAt w v l := ⟨S, h.sl⟩
theorem Own.fresh1 (w : World) (l : List Int) (hl : l.length ≤ 1000) : Own (w.alloc (.cells (l.map (Value.int .i64)).toArray 3)) (fun k => k = w.heap.size) 3 1 (.slice (some ⟨w.heap.size, 0, none⟩) l.length l.length) l.length (l.map (Value.int .i64)) :=
  ⟨by simp, .inr ⟨w.heap.size, 0, l.length, _, rfl, rfl, Blk.new w _ _, Nat.le_refl _, by unfold maxLen; omega, by simp, fun j u hu => by rw [Nat.zero_add]; simpa using hu⟩⟩
end Go.Proofs.YtapmojfebljjnaaGreat
set_option linter.unusedVariables false
set_option linter.unusedSimpArgs false
namespace Go.Proofs.YtapmojfebljjnaaGreat
open Go.RowKit Go.RR Go.Sort

theorem endF_id {n : Nat} {x : Int} (h0 : 0 ≤ x) (h1 : x ≤ n) : endF n x = x := by unfold endF; rw [if_neg (by omega)]


theorem Own.fresh2 (W : World) (l : List Int) (b n : Nat) (hb : W.heap.size = b) (hn : l.length = n) (hl : n ≤ 1000) : Own (W.alloc (.cells (l.map (Value.int .i64)).toArray 3)) (fun k => k = b) 3 1 (.slice (some ⟨b, 0, none⟩) n n) l.length (l.map (Value.int .i64)) := by
  subst hb hn
  exact Own.fresh1 W l hl

set_option maxHeartbeats 1000000 in
set_option maxRecDepth 100000 in
theorem next_halt {p : Option Addr} {cap n : Nat} {l : List In} {i : In} {w : World} (HI : InsAt w p cap l) (HL : Hid (l[n]? = some i)) (hl : l.length ≤ 40) (qJ : ((kd i.op).s.toList == [74]) = false) (qB : ((kd i.op).s.toList == [66]) = false) (q3 : (i.op != 0) = false) (pf : Hid (follow l.length n i = [])) :
    Calls Tryz.prog 37 #[.slice p l.length cap, .int .i64 n] w (RetSl fun y w' => IAtN w.heap.size w' y (nextF l n) ∧ Chg NoB w w') := by
  obtain ⟨g, of, rfl, hg, x0, x1, x2, x3, x4⟩ := HI.at HL.out
  have hcap := HI.cap
  have hlt : n < l.length := (List.getElem?_eq_some_iff.1 HL.out).1
  have t0 : decide ((n : Int) < 0) = false := by simp
  have t1 : decide ((l.length : Int) ≤ n) = false := by simp; omega
  have t1' : decide (l.length ≤ n) = false := by simp; omega
  have A1 := Lib.hid ((Chg.refl NoB w).alloc (.cells #[.int .i64 i.op, .int .i64 i.rd, .int .i64 i.rs, .int .i64 i.rt, .int .i64 i.im] 41))
  obtain ⟨s, hs⟩ : ∃ s, (kd i.op).s = s := ⟨_, rfl⟩
  rw [hs] at qJ qB
  have HS := Lib.hid hs
  clear hs HI
  go_enter Tryz.func37, Tryz.ntmps37
  go_wp2_with fail
  refine (kind_any i.op _).mono ?_
  rintro e w1 ⟨rfl, rfl⟩
  rw [HS.out]
  go_wp2_with fail
  refine (isort (S := NoB) (zs := []) (Own.nil _ _ _ _) (by decide)).mono ?_
  rintro e w3 ⟨rfl, O3, C3⟩
  clear O3
  go_wp2_with fail
  refine (icompact (S := NoB) (zs := []) (Own.nil _ _ _ _) (by decide)).mono ?_
  rintro e w4 ⟨v4, rfl, O4, C4⟩
  have HO4 := Lib.hid O4
  have HC4 := Lib.hid (C3.step C4)
  clear O4 C4 C3
  go_wp2_with fail
  go_ret
  have e : nextF l (n : Int) = [] := by rw [nextF_at HL.out]; exact pf.out
  exact ⟨_, rfl, by rw [e]; exact HO4.out.sl.mono fun k hk => hk.elim, A1.out.step HC4.out⟩
set_option maxHeartbeats 1000000 in
set_option maxRecDepth 100000 in
theorem next_on {p : Option Addr} {cap n : Nat} {l : List In} {i : In} {w : World} (HI : InsAt w p cap l) (HL : Hid (l[n]? = some i)) (hl : l.length ≤ 40) (qJ : ((kd i.op).s.toList == [74]) = false) (qB : ((kd i.op).s.toList == [66]) = false) (q3 : (i.op != 0) = true) (pf : Hid (follow l.length n i = [(n : Int) + 1])) :
    Calls Tryz.prog 37 #[.slice p l.length cap, .int .i64 n] w (RetSl fun y w' => IAtN w.heap.size w' y (nextF l n) ∧ Chg NoB w w') := by
  obtain ⟨g, of, rfl, hg, x0, x1, x2, x3, x4⟩ := HI.at HL.out
  have hcap := HI.cap
  have hlt : n < l.length := (List.getElem?_eq_some_iff.1 HL.out).1
  have t0 : decide ((n : Int) < 0) = false := by simp
  have t1 : decide ((l.length : Int) ≤ n) = false := by simp; omega
  have t1' : decide (l.length ≤ n) = false := by simp; omega
  have A1 := Lib.hid ((Chg.refl NoB w).alloc (.cells #[.int .i64 i.op, .int .i64 i.rd, .int .i64 i.rs, .int .i64 i.rt, .int .i64 i.im] 41))
  obtain ⟨s, hs⟩ : ∃ s, (kd i.op).s = s := ⟨_, rfl⟩
  rw [hs] at qJ qB
  have HS := Lib.hid hs
  clear hs HI
  go_enter Tryz.func37, Tryz.ntmps37
  go_wp2_with fail
  refine (kind_any i.op _).mono ?_
  rintro e w1 ⟨rfl, rfl⟩
  rw [HS.out]
  have O2 := Own.fresh2 (w.alloc (.cells #[.int .i64 i.op, .int .i64 i.rd, .int .i64 i.rs, .int .i64 i.rt, .int .i64 i.im] 41)) [(n : Int) + 1] (w.heap.size + 1) 1 (by simp) rfl (by omega)
  have A2 := A1.out.alloc (.cells (([(n : Int) + 1] : List Int).map (Value.int .i64)).toArray 3)
  have hz2 := A1.out.size
  have HA2 := Lib.hid A2
  have HO2 := Lib.hid O2
  clear A2 O2
  go_wp2_with fail
  refine (isort HO2.out (by show 1 ≤ 1000000; omega)).mono ?_
  rintro e w3 ⟨rfl, O3, C3⟩
  have e3 := List.length_mergeSort (le := leZ) ([(n : Int) + 1] : List Int)
  rw [← e3] at O3
  have HO3 := Lib.hid O3
  have HC3 := Lib.hid C3
  clear O3 C3 e3
  go_wp2_with fail
  refine (icompact HO3.out (by rw [List.length_mergeSort]; show 1 ≤ 1000000; omega)).mono ?_
  rintro e w4 ⟨v4, rfl, O4, C4⟩
  have HO4 := Lib.hid O4
  have HC4 := Lib.hid C4
  clear O4 C4
  go_wp2_with fail
  go_ret
  have e : nextF l (n : Int) = Lib.compact (([(n : Int) + 1] : List Int).mergeSort leZ) := by
    rw [nextF_at HL.out]
    rw [ms1, cp1]; exact pf.out
  refine ⟨_, rfl, by rw [e]; exact HO4.out.sl.mono (fun k hk => by have e := hk; omega), (HA2.out.trans HC3.out fun q hq e => ?_).trans HC4.out fun q hq e => ?_⟩
  all_goals (have e := e; omega)
set_option maxHeartbeats 1000000 in
set_option maxRecDepth 100000 in
theorem next_J {p : Option Addr} {cap n : Nat} {l : List In} {i : In} {w : World} (HI : InsAt w p cap l) (HL : Hid (l[n]? = some i)) (hl : l.length ≤ 40) (m0 : -2048 ≤ i.im) (m1 : i.im ≤ 2047) (qJ : ((kd i.op).s.toList == [74]) = true) (qB : ((kd i.op).s.toList == [66]) = false) (pf : Hid (follow l.length n i = [endF l.length (n + i.im)])) :
    Calls Tryz.prog 37 #[.slice p l.length cap, .int .i64 n] w (RetSl fun y w' => IAtN w.heap.size w' y (nextF l n) ∧ Chg NoB w w') := by
  obtain ⟨g, of, rfl, hg, x0, x1, x2, x3, x4⟩ := HI.at HL.out
  have hcap := HI.cap
  have hlt : n < l.length := (List.getElem?_eq_some_iff.1 HL.out).1
  have t0 : decide ((n : Int) < 0) = false := by simp
  have t1 : decide ((l.length : Int) ≤ n) = false := by simp; omega
  have t1' : decide (l.length ≤ n) = false := by simp; omega
  have A1 := Lib.hid ((Chg.refl NoB w).alloc (.cells #[.int .i64 i.op, .int .i64 i.rd, .int .i64 i.rs, .int .i64 i.rt, .int .i64 i.im] 41))
  obtain ⟨s, hs⟩ : ∃ s, (kd i.op).s = s := ⟨_, rfl⟩
  rw [hs] at qJ qB
  have HS := Lib.hid hs
  clear hs HI
  go_enter Tryz.func37, Tryz.ntmps37
  go_wp2_with fail
  refine (kind_any i.op _).mono ?_
  rintro e w1 ⟨rfl, rfl⟩
  rw [HS.out]
  go_wp2_with fail
  refine (end_any _ _ _ _ _ (by omega)).mono ?_
  rintro e w1 ⟨rfl, rfl⟩
  have O2 := Own.fresh2 (w.alloc (.cells #[.int .i64 i.op, .int .i64 i.rd, .int .i64 i.rs, .int .i64 i.rt, .int .i64 i.im] 41)) [endF l.length (n + i.im)] (w.heap.size + 1) 1 (by simp) rfl (by omega)
  have A2 := A1.out.alloc (.cells (([endF l.length (n + i.im)] : List Int).map (Value.int .i64)).toArray 3)
  have hz2 := A1.out.size
  have HA2 := Lib.hid A2
  have HO2 := Lib.hid O2
  clear A2 O2
  go_wp2_with fail
  refine (isort HO2.out (by show 1 ≤ 1000000; omega)).mono ?_
  rintro e w3 ⟨rfl, O3, C3⟩
  have e3 := List.length_mergeSort (le := leZ) ([endF l.length (n + i.im)] : List Int)
  rw [← e3] at O3
  have HO3 := Lib.hid O3
  have HC3 := Lib.hid C3
  clear O3 C3 e3
  go_wp2_with fail
  refine (icompact HO3.out (by rw [List.length_mergeSort]; show 1 ≤ 1000000; omega)).mono ?_
  rintro e w4 ⟨v4, rfl, O4, C4⟩
  have HO4 := Lib.hid O4
  have HC4 := Lib.hid C4
  clear O4 C4
  go_wp2_with fail
  go_ret
  have e : nextF l (n : Int) = Lib.compact (([endF l.length (n + i.im)] : List Int).mergeSort leZ) := by
    rw [nextF_at HL.out]
    rw [ms1, cp1]; exact pf.out
  refine ⟨_, rfl, by rw [e]; exact HO4.out.sl.mono (fun k hk => by have e := hk; omega), (HA2.out.trans HC3.out fun q hq e => ?_).trans HC4.out fun q hq e => ?_⟩
  all_goals (have e := e; omega)
set_option maxHeartbeats 1000000 in
set_option maxRecDepth 100000 in
theorem next_B {p : Option Addr} {cap n : Nat} {l : List In} {i : In} {w : World} (HI : InsAt w p cap l) (HL : Hid (l[n]? = some i)) (hl : l.length ≤ 40) (m0 : -2048 ≤ i.im) (m1 : i.im ≤ 2047) (qJ : ((kd i.op).s.toList == [74]) = false) (qB : ((kd i.op).s.toList == [66]) = true) (pf : Hid (follow l.length n i = Lib.compact ([endF l.length (n + 1), endF l.length (n + i.im)].mergeSort leZ))) :
    Calls Tryz.prog 37 #[.slice p l.length cap, .int .i64 n] w (RetSl fun y w' => IAtN w.heap.size w' y (nextF l n) ∧ Chg NoB w w') := by
  have s1 : IntKind.i64.wrap ((n : Int) + 1) = n + 1 := IntWalk.i64_in _ (by have := (List.getElem?_eq_some_iff.1 HL.out).1; omega)
  have s2 : IntKind.i64.wrap ((n : Int) + i.im) = n + i.im := IntWalk.i64_in _ (by have := (List.getElem?_eq_some_iff.1 HL.out).1; omega)
  have S1 := Lib.hid s1
  have S2 := Lib.hid s2
  clear s1 s2
  obtain ⟨g, of, rfl, hg, x0, x1, x2, x3, x4⟩ := HI.at HL.out
  have hcap := HI.cap
  have hlt : n < l.length := (List.getElem?_eq_some_iff.1 HL.out).1
  have t0 : decide ((n : Int) < 0) = false := by simp
  have t1 : decide ((l.length : Int) ≤ n) = false := by simp; omega
  have t1' : decide (l.length ≤ n) = false := by simp; omega
  have A1 := Lib.hid ((Chg.refl NoB w).alloc (.cells #[.int .i64 i.op, .int .i64 i.rd, .int .i64 i.rs, .int .i64 i.rt, .int .i64 i.im] 41))
  obtain ⟨s, hs⟩ : ∃ s, (kd i.op).s = s := ⟨_, rfl⟩
  rw [hs] at qJ qB
  have HS := Lib.hid hs
  clear hs HI
  go_enter Tryz.func37, Tryz.ntmps37
  go_wp2_with fail
  refine (kind_any i.op _).mono ?_
  rintro e w1 ⟨rfl, rfl⟩
  rw [HS.out]
  go_wp2_with fail
  have s1 := S1.out
  have s2 := S2.out
  refine wp_region_plan 10 [] [0, 1, 2, 3, 4, 5, 6, 7, 8, 9] (by kernel_rfl) (by kernel_rfl) (fun _ _ _ _ _ h => h) ?_
  simp only [pickOps_nil, pickOps_cons, Option.getD_some, List.getElem?_toArray, List.getElem?_cons_zero, List.getElem?_cons_succ, List.cons_append, List.nil_append, List.drop_succ_cons, List.drop_zero]
  repeat (go_big_quiet_step ((go_at_call 73; exact quiet0 (end_any _ _ _ _ _ (by omega)))))
  refine wpQuiet_nil ?_
  intro w2 hw2
  have C2 := Chg.of_ex hw2
  clear hw2
  clear s1 s2
  have AW := Lib.hid (A1.out.step C2)
  have hzw := C2.size
  clear C2
  have O2 := Own.fresh2 w2 [endF l.length (n + 1), endF l.length (n + i.im)] w2.heap.size 2 rfl rfl (by omega)
  have A2 := AW.out.alloc (.cells (([endF l.length (n + 1), endF l.length (n + i.im)] : List Int).map (Value.int .i64)).toArray 3)
  have hz2 := AW.out.size
  have HA2 := Lib.hid A2
  have HO2 := Lib.hid O2
  clear A2 O2
  go_wp2_with fail
  refine (isort HO2.out (by show 2 ≤ 1000000; omega)).mono ?_
  rintro e w3 ⟨rfl, O3, C3⟩
  have e3 := List.length_mergeSort (le := leZ) ([endF l.length (n + 1), endF l.length (n + i.im)] : List Int)
  rw [← e3] at O3
  have HO3 := Lib.hid O3
  have HC3 := Lib.hid C3
  clear O3 C3 e3
  go_wp2_with fail
  refine (icompact HO3.out (by rw [List.length_mergeSort]; show 2 ≤ 1000000; omega)).mono ?_
  rintro e w4 ⟨v4, rfl, O4, C4⟩
  have HO4 := Lib.hid O4
  have HC4 := Lib.hid C4
  clear O4 C4
  go_wp2_with fail
  go_ret
  have e : nextF l (n : Int) = Lib.compact (([endF l.length (n + 1), endF l.length (n + i.im)] : List Int).mergeSort leZ) := by
    rw [nextF_at HL.out]
    exact pf.out
  refine ⟨_, rfl, by rw [e]; exact HO4.out.sl.mono (fun k hk => by have e := hk; omega), (HA2.out.trans HC3.out fun q hq e => ?_).trans HC4.out fun q hq e => ?_⟩
  all_goals (have e := e; omega)

theorem follow_B {len n : Nat} {i : In} (h : kd i.op = .B) (hn : n < len) : follow len n i = Lib.compact ([endF len (n + 1), endF len (n + i.im)].mergeSort leZ) := by
  have e1 : endF len ((n : Int) + 1) = n + 1 := endF_id (by omega) (by omega)
  rw [e1, ms2, follow, if_neg (by rw [h]; decide), if_pos h]
  generalize endF len (n + i.im) = d
  by_cases h1 : d < (n : Int) + 1
  · rw [if_pos h1, if_neg (by omega), cp2, if_neg (by omega)]
  · have h3 : (n : Int) + 1 ≤ d := by omega
    rw [if_neg h1, if_pos h3, cp2]
    by_cases h2 : (n : Int) + 1 < d
    · rw [if_pos h2, if_neg (by omega)]
    · obtain rfl : d = (n : Int) + 1 := by omega
      rw [if_neg h2, if_pos rfl]
set_option maxHeartbeats 1000000 in
set_option maxRecDepth 100000 in
theorem fnext_any (S : Nat → Prop) (v : Value) (l : List In) (x : Int) (w : World) (hs : Sl w S 5 v l.length (icells l)) (hl : l.length ≤ 40) (hr : ∀ i ∈ l, rightB i = true) :
    Calls Tryz.prog 37 #[v, .int .i64 x] w (RetSl fun y w' => IAtN w.heap.size w' y (nextF l x) ∧ Chg NoB w w') := by
  obtain ⟨p, cap, rfl, HI⟩ := InsAt.of hs (by omega)
  by_cases h0 : x < 0
  · have t0 : decide (x < 0) = true := by simp; omega
    have H := Lib.hid (nextF_out (l := l) (.inl h0))
    clear h0 hs HI
    go_enter Tryz.func37, Tryz.ntmps37
    go_wp2_with fail
    go_ret
    exact ⟨_, rfl, by rw [H.out]; exact IAtN.nil _ _, Chg.refl _ _⟩
  · have t0 : decide (x < 0) = false := by simp; omega
    obtain ⟨n, rfl⟩ := Int.eq_ofNat_of_zero_le (by omega : 0 ≤ x)
    by_cases h1 : l.length ≤ n
    · have t1 : decide ((l.length : Int) ≤ n) = true := by simp; omega
      have t1' : decide (l.length ≤ n) = true := by simp; omega
      have H := Lib.hid (nextF_out (l := l) (x := (n : Int)) (.inr (by omega)))
      clear h0 h1 hs HI
      go_enter Tryz.func37, Tryz.ntmps37
      go_wp2_with fail
      go_ret
      exact ⟨_, rfl, by rw [H.out]; exact IAtN.nil _ _, Chg.refl _ _⟩
    · have hlt : n < l.length := by omega
      obtain ⟨i, hi⟩ : ∃ i, l[n]? = some i := ⟨l[n], by simp [hlt]⟩
      obtain ⟨m0, m1⟩ := rightB_im (hr i (List.mem_of_getElem? hi))
      by_cases hJ : kd i.op = .J
      · exact next_J HI (Lib.hid hi) hl m0 m1 (by rw [ks_J, hJ]; rfl) (by rw [ks_B, hJ]; rfl) (Lib.hid (by rw [follow, if_pos hJ]))
      · by_cases hB : kd i.op = .B
        · exact next_B HI (Lib.hid hi) hl m0 m1 (by rw [ks_J, hB]; rfl) (by rw [ks_B, hB]; rfl) (Lib.hid (follow_B hB hlt))
        · by_cases hop : i.op = 0
          · exact next_halt HI (Lib.hid hi) hl (by rw [ks_J]; simp [hJ]) (by rw [ks_B]; simp [hB]) (by simp [hop]) (Lib.hid (by rw [follow, if_neg hJ, if_neg hB, if_pos hop]))
          · exact next_on HI (Lib.hid hi) hl (by rw [ks_J]; simp [hJ]) (by rw [ks_B]; simp [hB]) (by simp [hop]) (Lib.hid (by rw [follow, if_neg hJ, if_neg hB, if_neg hop]))
end Go.Proofs.YtapmojfebljjnaaGreat
