/- Sorted slices of integers; what may follow, by the program. No condition. -/
import Derived.Test.YtdkplhdinklflaaFlow2
import Derived.Test.YtdkplhdinklflaaShelf
import Derived.Lib.SortBridge
set_option linter.unusedVariables false
namespace Go.Proofs.Ytdkplhdinklflaa
open Go.RowKit Go.RR Go.Sort

abbrev leZ : Int → Int → Bool := fun x y => decide (x ≤ y)
theorem ms2 (a b : Int) : [a, b].mergeSort leZ = if a ≤ b then [a, b] else [b, a] := by
  by_cases h : a ≤ b <;> simp [List.mergeSort, List.MergeSort.Internal.splitInTwo, h]
theorem ms1 (a : Int) : [a].mergeSort leZ = [a] := by simp
theorem cp1 (a : Int) : Lib.compact [a] = [a] := by
  simp [Lib.compact, Lib.compactUpTo, Lib.keeps, List.range_succ]
theorem cp2 (a b : Int) : Lib.compact [a, b] = if a = b then [a] else [a, b] := by
  by_cases h : a = b
  · simp [Lib.compact, Lib.compactUpTo, Lib.keeps, List.range_succ, h]
  · have h' : ¬ b = a := fun e => h e.symm
    simp [Lib.compact, Lib.compactUpTo, Lib.keeps, List.range_succ, List.filter, h, h']

/-- A block behind the sort's contract. -/
theorem Blk.sorted {w : World} {g off q : Nat} {cur : Array Value} {E : TypeId} {os : Array Obj} (hb : Blk w g cur E) (vs : List Value) (hf : off + vs.length ≤ cur.size) :
    ∃ cur', Blk (grow ((w.drewN q).setCells g off vs) os) g cur' E ∧ cur'.size = cur.size ∧ (∀ j u, vs[j]? = some u → cur'[off + j]? = some u) ∧ (∀ i, i < off ∨ off + vs.length ≤ i → cur'[i]? = cur[i]?) ∧ Chg (· = g) w (grow ((w.drewN q).setCells g off vs) os) := by
  obtain ⟨c', k1, k2, k3, k4, k5, k6, k7, k8, k9⟩ := setCells_blk vs off (w.drewN q) cur hb hf
  have hg := k1.lt
  refine ⟨c', (heap_grow_old _ os hg).trans k1, k2, k3, k4, ⟨k7, k8, k9, ?_, fun k hk hn => ?_⟩⟩
  · show _ ≤ (_ ++ os).size
    rw [Array.size_append, k6]
    exact Nat.le_add_right _ _
  · exact (heap_grow_old _ os (by rw [k6]; exact hk)).trans (k5 k hn)
theorem Own.holds {w : World} {S : Nat → Prop} {g off cap : Nat} {zs : List Int} {cur : Array Value} (hb : Blk w g cur 3) (hc : ∀ j u, (zs.map (Value.int .i64))[j]? = some u → cur[off + j]? = some u) : Holds (Value.int .i64) w g off zs.toArray := by
  intro j hj
  have hj : j < zs.length := by simpa using hj
  refine ⟨hb.cell' (hc j _ ?_), hb.frozen _⟩
  simp [hj]
set_option maxRecDepth 100000 in
theorem isort {S : Nat → Prop} {w : World} {v : Value} {zs : List Int} (h : Own w S 3 1 v zs.length (zs.map (Value.int .i64))) (hz : zs.length ≤ 1000000) :
    Calls Try.prog 77 #[v] w (RetW (.tuple #[]) fun w' => Own w' S 3 1 v zs.length ((zs.mergeSort leZ).map (Value.int .i64)) ∧ Chg S w w') := by
  have hlen : (zs.mergeSort leZ).length = zs.length := List.length_mergeSort _
  rcases h.2 with ⟨rfl, h0⟩ | ⟨g, off, cap, cur, rfl, hg, hb, hn, hm, hf, hc⟩
  · obtain rfl : zs = [] := List.eq_nil_of_length_eq_zero h0
    refine (Try.slices_Sort_int_none none 0 w).mono ?_
    rintro e w' ⟨rfl, rfl⟩
    exact ⟨rfl, by simpa using Own.nil _ _ _ _, Chg.refl _ _⟩
  · have hH := Own.holds (S := S) (cap := cap) hb hc
    refine (Try.slices_Sort_int g off cap zs w hH hb.lt (by omega)).mono ?_
    rintro e w' ⟨rfl, n, os, rfl⟩
    rw [Lib.sorted_world (Value.int .i64) w g off n zs.toArray _ os hH (by simp [hlen])]
    obtain ⟨c', k1, k2, k3, -, k5⟩ := Blk.sorted (q := n) (os := os) (off := off) hb ((zs.mergeSort leZ).map (Value.int .i64)) (by rw [List.length_map, hlen]; omega)
    exact ⟨rfl, ⟨by simp [hlen], .inr ⟨g, off, cap, c', rfl, hg, k1, hn, hm, by omega, k3⟩⟩, k5.mono fun b _ e => by rw [e]; exact hg⟩
set_option maxRecDepth 100000 in
theorem icompact {S : Nat → Prop} {w : World} {v : Value} {zs : List Int} (h : Own w S 3 1 v zs.length (zs.map (Value.int .i64))) (hz : zs.length ≤ 1000000) :
    Calls Try.prog 78 #[v] w (RetSl fun v' w' => Own w' S 3 1 v' (Lib.compact zs).length ((Lib.compact zs).map (Value.int .i64)) ∧ Chg S w w') := by
  rcases h.2 with ⟨rfl, h0⟩ | ⟨g, off, cap, cur, rfl, hg, hb, hn, hm, hf, hc⟩
  · obtain rfl : zs = [] := List.eq_nil_of_length_eq_zero h0
    refine (Try.slices_Compact_int_empty none 0 w).mono ?_
    rintro e w' ⟨rfl, rfl⟩
    exact ⟨_, rfl, by have : Lib.compact ([] : List Int) = [] := rfl
                      rw [this]; exact Own.nil _ _ _ _, Chg.refl _ _⟩
  · have hH := Own.holds (S := S) (cap := cap) hb hc
    have hle : (Lib.compact zs).length ≤ zs.length := by
      unfold Lib.compact Lib.compactUpTo
      rw [List.length_map]
      exact Nat.le_trans (List.length_filter_le _ _) (by simp)
    refine (Try.slices_Compact_int g off cap zs w hH (by omega) hn).mono ?_
    rintro e w' ⟨rfl, q, rfl⟩
    have e1 := Lib.sorted_world (Value.int .i64) w g off q zs.toArray (Lib.compact zs ++ List.replicate (zs.length - (Lib.compact zs).length) 0) #[] hH (by simp; omega)
    rw [grow_empty] at e1
    rw [e1]
    obtain ⟨c', k1, k2, k3, -, k5⟩ := Blk.sorted (q := q) (os := #[]) (off := off) hb ((Lib.compact zs ++ List.replicate (zs.length - (Lib.compact zs).length) 0).map (Value.int .i64)) (by rw [List.length_map, List.length_append, List.length_replicate]; omega)
    refine ⟨_, rfl, ⟨by simp, .inr ⟨g, off, cap, c', rfl, hg, k1, by omega, hm, by omega, fun j u hu => k3 j u ?_⟩⟩, k5.mono fun b _ e => by rw [e]; exact hg⟩
    rw [List.map_append, List.getElem?_append_left (List.getElem?_eq_some_iff.1 hu).1]
    exact hu
theorem Own.ints {w : World} {S : Nat → Prop} {v : Value} {l : List Int} (h : Own w S 3 1 v l.length (l.map (Value.int .i64))) : IAt w v l := ⟨S, h.sl⟩
theorem Own.fresh1 (w : World) (l : List Int) (hl : l.length ≤ 1000) : Own (w.alloc (.cells (l.map (Value.int .i64)).toArray 3)) (fun k => k = w.heap.size) 3 1 (.slice (some ⟨w.heap.size, 0, none⟩) l.length l.length) l.length (l.map (Value.int .i64)) :=
  ⟨by simp, .inr ⟨w.heap.size, 0, l.length, _, rfl, rfl, Blk.new w _ _, Nat.le_refl _, by unfold maxLen; omega, by simp, fun j u hu => by rw [Nat.zero_add]; simpa using hu⟩⟩
end Go.Proofs.Ytdkplhdinklflaa
