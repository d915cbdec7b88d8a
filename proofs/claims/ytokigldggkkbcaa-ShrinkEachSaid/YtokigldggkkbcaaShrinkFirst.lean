/- What layer 38's statements ask first; Shrink; Steps of no function. -/
import Derived.Test.YtokigldggkkbcaaShrinkRef3
import Derived.Shelf.Abstract
set_option linter.unusedVariables false
namespace Go.Proofs.Ytokigldggkkbcaa
open Go.RowKit Go.RR

theorem asks_is (mv : Value) (must : List Int) (H : Nat) (hl : must.length ≤ 1000000) :
    Asks 45 #[.agg #[mv]] #[] 3 (Value.int .i64) (badOf must) 1000000000 H NoB (fun _ w => Sl w (fun k => k < H) 1 mv must.length (ints must)) where
  old := fun _ h => h.elim
  keep := fun n w w' h _ c => h.chg c fun k h1 h2 => by omega
  call := fun n w v zs Sv h _ hz _ hv _ => (sh_is _ _ mv v must zs w h hv.sl hl (by omega) _ rfl).mono fun e w' ⟨h1, h2⟩ => ⟨h1, h.chg0 h2, h2.mono fun _ _ h => h.elim⟩
  enter := enters_of Try.func45 (by kernel_rfl) rfl

set_option maxRecDepth 100000 in
theorem n_shrink {g : Nat} {fst lb : Array Value} {p : List Int → Bool} {B : Nat} {S Sl' : Nat → Prop} {I : Nat → World → Prop} (w : World) (h : Asks g fst lb 3 (Value.int .i64) p B w.heap.size S I) (m : Nat) (v : Value) (zs : List Int) (out : List Int) (cnt : Nat)
    (hI : I m w) (hz : zs.length ≤ 200) (hm : m + 50000000 ≤ B) (hs : Sl w Sl' 1 v zs.length (ints zs)) (hr : shrinkF p zs = (out, cnt)) :
    Calls Try.prog 48 #[v, .func (.func g) fst lb] w (RetV fun q w' => Own w' (fun k => w.heap.size ≤ k) 3 1 q out.length (ints out) ∧ I (m + cnt) w' ∧ Chg S w w') := by
  have H := Lib.hid (n_steps w h m v zs out cnt hI hz hm hs hr)
  clear hs hr hI
  go_enter Try.func48, Try.ntmps48
  go_wp2_with fail
  refine H.out.mono ?_
  rintro e w1 ⟨_, rfl, q, rfl, h1, h2, h3⟩
  go_wp2
  go_ret
  exact ⟨_, rfl, h1, h2, h3⟩

theorem steps_nil (S : Nat → Prop) (w : World) (v : Value) (zs : List Int) (hs : Sl w S 1 v zs.length (ints zs)) (hz : zs.length ≤ 200) :
    Calls Try.prog 46 #[v, .nilFunc] w (RetV fun r w' => ∃ q, r = .tuple #[q, .int .i64 0] ∧ Own w' (fun k => w.heap.size ≤ k) 3 1 q zs.length (ints zs) ∧ Chg NoB w w') := by
  have HCL := Lib.hid (n_clone S v zs.length _ w hs (ints_one zs) (by omega) (by unfold maxLen; omega))
  have hfn := fun w' => run_eql_nil_func (P := Try.prog) w' 74 _ Try.underlying74 rfl
  clear hs
  go_enter Try.func46, Try.ntmps46
  go_wp2_with fail
  refine HCL.out.mono ?_
  rintro e w1 ⟨q1, rfl, O1, C1⟩
  go_wp2
  go_ret2
  exact ⟨_, rfl, _, rfl, O1, C1⟩

theorem fresh_ints (w : World) (zs : List Int) (hl : zs.length ≤ 100) : Sl (w.alloc (.cells (ints zs).toArray 3)) (fun k => k = w.heap.size) 1 (.slice (some ⟨w.heap.size, 0, none⟩) zs.length zs.length) zs.length (ints zs) :=
  Sl.fresh w (ints zs) 3 zs.length (by simp [ints])

theorem first_a : shrinkF (badOf [3, 7]) [1, 2, 3, 4, 5, 6, 7, 8] = ([3, 7], (shrinkF (badOf [3, 7]) [1, 2, 3, 4, 5, 6, 7, 8]).2) := Prod.ext (by decide +kernel) rfl
theorem first_b : shrinkF (badOf [3, 7]) [] = ([], 1) := by decide +kernel

set_option maxHeartbeats 1000000 in
set_option maxRecDepth 100000 in
theorem first38 (w : World) : Calls Try.prog 38 #[] w (RetW (.bool true) fun w' => Chg NoB w w') := by
  go_enter Try.func38, Try.ntmps38
  go_wp2_with fail
  have s1 := fresh_ints w [3, 7] (by decide)
  have A1 : Chg NoB w (w.alloc (.cells #[.int .i64 3, .int .i64 7] 3)) := (Chg.refl NoB w).alloc _
  have A2 := (Chg.refl NoB (w.alloc (.cells #[.int .i64 3, .int .i64 7] 3))).alloc (.cells #[.slice (some ⟨w.heap.size, 0, none⟩) 2 2] 73)
  have B2 := Blk.new (w.alloc (.cells #[.int .i64 3, .int .i64 7] 3)) #[.slice (some ⟨w.heap.size, 0, none⟩) 2 2] 73
  have hw2 : ((w.alloc (.cells #[.int .i64 3, .int .i64 7] 3)).alloc (.cells #[.slice (some ⟨w.heap.size, 0, none⟩) 2 2] 73)).heap.size = w.heap.size + 1 + 1 := by simp
  have s2 : Sl _ _ 1 (.slice (some ⟨w.heap.size, 0, none⟩) 2 2) 2 (ints [3, 7]) := s1.chg0 A2
  have C2 := A1.step A2
  rw [show (w.alloc (.cells #[.int .i64 3, .int .i64 7] 3)).heap.size = w.heap.size + 1 from by simp] at B2
  generalize hwx : (w.alloc (.cells #[.int .i64 3, .int .i64 7] 3)).alloc (.cells #[.slice (some ⟨w.heap.size, 0, none⟩) 2 2] 73) = w2 at *
  have s3 := fresh_ints w2 [1, 2, 3, 4, 5, 6, 7, 8] (by decide)
  have A3 : Chg NoB w2 (w2.alloc (.cells #[.int .i64 1, .int .i64 2, .int .i64 3, .int .i64 4, .int .i64 5, .int .i64 6, .int .i64 7, .int .i64 8] 3)) := (Chg.refl NoB w2).alloc _
  rw [hw2] at s3
  have s3' : Sl (w2.alloc (.cells #[.int .i64 1, .int .i64 2, .int .i64 3, .int .i64 4, .int .i64 5, .int .i64 6, .int .i64 7, .int .i64 8] 3)) (fun k => k = w.heap.size + 1 + 1) 1 (.slice (some ⟨w.heap.size + 1 + 1, 0, none⟩) 8 8) 8 (ints [1, 2, 3, 4, 5, 6, 7, 8]) := s3
  generalize hw3 : w2.alloc (.cells #[.int .i64 1, .int .i64 2, .int .i64 3, .int .i64 4, .int .i64 5, .int .i64 6, .int .i64 7, .int .i64 8] 3) = w3 at *
  have s4 := (s2.chg0 A3).monoIn (S' := fun k => k < w3.heap.size) fun k hk _ => hk
  clear s1 A1 A2 hwx s3 hw3
  refine (n_shrink w3 (asks_is (.slice (some ⟨w.heap.size, 0, none⟩) 2 2) [3, 7] _ (by decide)) 0 _ _ [3, 7] _ s4 (by decide) (by decide) s3' first_a).mono ?_
  rintro e w4 ⟨q4, rfl, O4, -, C4⟩
  have s5 := (s2.chg0 A3).chg0 C4
  have C5 := (C2.step A3).step C4
  have B5 := C4.blk0 (A3.blk0 B2)
  have hz5 := C5.size
  clear s4 s3' B2 s2 C2 A3
  obtain ⟨pq4, cq4, rfl⟩ : ∃ p c, q4 = .slice p 2 c := by obtain ⟨-, p, c, e, -⟩ := O4.sl; exact ⟨p, c, e⟩
  go_upto_region 3 with fail
  have s6 := fresh_ints w4 [1, 2, 3, 4, 5] (by decide)
  have A6 : Chg NoB w4 (w4.alloc (.cells #[.int .i64 1, .int .i64 2, .int .i64 3, .int .i64 4, .int .i64 5] 3)) := (Chg.refl NoB w4).alloc _
  have s6' : Sl (w4.alloc (.cells #[.int .i64 1, .int .i64 2, .int .i64 3, .int .i64 4, .int .i64 5] 3)) (fun k => k = w4.heap.size) 1 (.slice (some ⟨w4.heap.size, 0, none⟩) 5 5) 5 (ints [1, 2, 3, 4, 5]) := s6
  clear s6
  go_wp2_with fail
  refine (n_split _ _ _ 2 5 2 (ints [1, 2, 3, 4, 5]) s6' (ints_one _) (by decide) (by decide)).mono ?_
  rintro e w7 ⟨q7, rfl, vs, O7, R7, C7⟩
  obtain ⟨v0, hv0, hs0⟩ := R7.2 0 (ints [1, 2, 3]) (by rfl)
  obtain ⟨p0, c0, rfl⟩ : ∃ p c, v0 = .slice p 3 c := by obtain ⟨-, p, c, e, -⟩ := hs0; exact ⟨p, c, e⟩
  obtain ⟨g7, off7, cap7, rfl, hcell7⟩ : ∃ g off cap, q7 = .slice (some ⟨g, off, none⟩) 2 cap ∧ w7.cell? ⟨g, off, none⟩ = some (.slice p0 3 c0) := by
    obtain ⟨-, p, c, e, hn, h2⟩ := O7.sl
    obtain ⟨g, off, rfl, h3, h4, h5⟩ := h2 (by decide)
    exact ⟨g, off, c, e, h5 0 _ hv0⟩
  have D7 := A6.step C7
  have O8 := O4.chg0 D7
  have B8 := D7.blk0 B5
  have s8 := s5.chg0 D7
  have C8 := C5.step D7
  clear O4 B5 s5 C5 D7 A6 s6' C7 O7 R7 hv0 hs0
  go_upto_region 4 with fail
  have s9 := fresh_ints w7 [3, 7] (by decide)
  have A9 : Chg NoB w7 (w7.alloc (.cells #[.int .i64 3, .int .i64 7] 3)) := (Chg.refl NoB w7).alloc _
  have s9' : Sl (w7.alloc (.cells #[.int .i64 3, .int .i64 7] 3)) (fun k => k = w7.heap.size) 1 (.slice (some ⟨w7.heap.size, 0, none⟩) 2 2) 2 (ints [3, 7]) := s9
  clear s9
  have hcell9 := A9.cell hcell7 id
  generalize hw9 : w7.alloc (.cells #[.int .i64 3, .int .i64 7] 3) = w9 at *
  have O9 := O8.chg0 A9
  go_wp2_with fail
  refine (sh_same _ _ _ _ _ _ [3, 7] [3, 7] w9 O9.sl s9' (by decide) (by decide) true (by decide)).mono ?_
  rintro e w10 ⟨rfl, n10, rfl⟩
  have hcell10 : (w9.drewN n10).cell? ⟨g7, off7, none⟩ = some (.slice p0 3 c0) := hcell9
  have D10 := A9.drewN n10
  have B10 := D10.blk0 B8
  have s10 := s8.chg0 D10
  have C10 := C8.step D10
  generalize hw10 : w9.drewN n10 = w10 at *
  clear hw9 hw10 O9 s9' A9 hcell9 O8 B8 s8 C8 D10 hcell7
  have s11 := fresh_ints w10 [1, 2, 3] (by decide)
  have A11 : Chg NoB w10 (w10.alloc (.cells #[.int .i64 1, .int .i64 2, .int .i64 3] 3)) := (Chg.refl NoB w10).alloc _
  have s11' : Sl (w10.alloc (.cells #[.int .i64 1, .int .i64 2, .int .i64 3] 3)) (fun k => k = w10.heap.size) 1 (.slice (some ⟨w10.heap.size, 0, none⟩) 3 3) 3 (ints [1, 2, 3]) := s11
  clear s11
  go_wp2_with fail
  refine (n_without _ _ _ 1 9 (ints [1, 2, 3]) s11' (ints_one _) (by decide) (by decide) (by decide)).mono ?_
  rintro e w12 ⟨q12, rfl, O12, C12⟩
  rw [show (woF (ints [1, 2, 3]) 1 9).length = 1 from by rfl] at O12
  obtain ⟨p12, c12, rfl⟩ : ∃ p c, q12 = .slice p 1 c := by obtain ⟨-, p, c, e, -⟩ := O12.sl; exact ⟨p, c, e⟩
  have B12 := C12.blk0 (A11.blk0 B10)
  have C13 := (C10.step A11).step C12
  have k12 := B12.cell' (i := 0) (v := .slice (some ⟨w.heap.size, 0, none⟩) 2 2) (by rfl)
  have kl := B12.lt
  have s13 := (s10.chg0 A11).chg0 C12
  clear B12 B10 s10 C10 A11 s11' O12 C12 hcell10
  have A14 : Chg NoB w12 (w12.alloc (.cells #[] 3)) := (Chg.refl NoB w12).alloc _
  have k14 := A14.cell k12 id
  have s14 := (s13.chg0 A14).monoIn (S' := fun k => k < (w12.alloc (.cells #[] 3)).heap.size) fun k hk _ => hk
  clear k14
  go_wp2_with fail
  refine (n_shrink (w12.alloc (.cells #[] 3)) (asks_is (.slice (some ⟨w.heap.size, 0, none⟩) 2 2) [3, 7] _ (by decide)) 0 _ [] [] _ s14 (by decide) (by decide) (Sl.empty _ NoB _ _ _) first_b).mono ?_
  rintro e w15 ⟨q15, rfl, O15, -, C15⟩
  obtain ⟨p15, c15, rfl⟩ : ∃ p c, q15 = .slice p 0 c := by obtain ⟨-, p, c, e, -⟩ := O15.sl; exact ⟨p, c, e⟩
  go_wp2
  go_ret
  exact ⟨rfl, (C13.step A14).step C15⟩
end Go.Proofs.Ytokigldggkkbcaa
