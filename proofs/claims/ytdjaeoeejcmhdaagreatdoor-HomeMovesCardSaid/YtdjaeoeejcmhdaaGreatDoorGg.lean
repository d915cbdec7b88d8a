/- Rights: what an access needs, the causes of faults, flags of a text. No condition. Rights: the flags of a text; entries of frames. No condition. Spaces: entries of frames, shapes, addresses. No condition. slices.Clone: what it answers. No condition. -/
import Derived.Test.YtdjaeoeejcmhdaaGreatDoorGf
import Derived.Test.YtdjaeoeejcmhdaaGreatDoorGa
import Derived.Test.YtdjaeoeejcmhdaaGreatDoorGc
import Derived.Deep.LoopGhost
import Derived.Test.YtdjaeoeejcmhdaaGreatDoorProg
import Derived.Test.YtdjaeoeejcmhdaaGreatDoorFa
set_option linter.unusedVariables false
set_option linter.unusedSimpArgs false
namespace Go.Proofs.YtdjaeoeejcmhdaaGreatDoor
open Go.RowKit Go.RR
def UMode : Mode := ⟨true, false, false⟩
def Acc (a : Int) : Prop := a = 0 ∨ a = 1 ∨ a = 2
set_option maxRecDepth 100000 in
theorem allows_any (p : Pte) (a : Int) (ha : Acc a) (w : World) : Calls Tryz.prog 103 #[.agg #[.bool p.v, .bool p.r, .bool p.w, .bool p.x, .bool p.u, .bool p.g, .bool p.a, .bool p.d, .int .i64 p.rsw, .int .u64 p.ppn], .int .i64 a, .bool false] w (RetW (.bool (allowsB p a false)) fun w' => Chg NoB w w') := by
  obtain ⟨v, r, pw, x, u, g, pa, d, rsw, ppn⟩ := p
  have HC := Lib.hid (Chg.refl NoB w)
  rcases ha with rfl | rfl | rfl
  · go_enter Tryz.func103, Tryz.ntmps103
    go_wp2_with fail
    go_ret
    exact ⟨rfl, HC.out.alloc _⟩
  · cases r
    all_goals
      go_enter Tryz.func103, Tryz.ntmps103
      go_wp2_with fail
      go_ret
      exact ⟨rfl, HC.out.alloc _⟩
  · cases pw
    all_goals
      go_enter Tryz.func103, Tryz.ntmps103
      go_wp2_with fail
      go_ret
      exact ⟨by first | rfl | simp [allowsB], HC.out.alloc _⟩
set_option maxRecDepth 100000 in
theorem check_mode (p : Pte) (a : Int) (ha : Acc a) (w : World) : Calls Tryz.prog 56 #[.agg #[.bool p.v, .bool p.r, .bool p.w, .bool p.x, .bool p.u, .bool p.g, .bool p.a, .bool p.d, .int .i64 p.rsw, .int .u64 p.ppn], .int .i64 a, .agg #[.bool true, .bool false, .bool false]] w (RetW (.bool (checkB p a UMode)) fun w' => Chg NoB w w') := by
  have H1 := Lib.hid fun w' => pteRight_any p w'
  have H2 := Lib.hid fun w' => pteLeaf_any p w'
  have H3 := Lib.hid fun w' => allows_any p a ha w'
  obtain ⟨R, hR⟩ : ∃ R, rightP8 p = R := ⟨_, rfl⟩
  obtain ⟨L, hL⟩ : ∃ L, leafB p = L := ⟨_, rfl⟩
  obtain ⟨Al, hAl⟩ : ∃ Al, allowsB p a false = Al := ⟨_, rfl⟩
  have HV : Hid (checkB p a UMode = if !R || !L || !p.a then false else if !p.u then false else Al) := Lib.hid (by
    unfold checkB UMode
    rw [hR, hL, hAl]
    simp)
  rw [HV.out]
  rw [hR] at H1
  rw [hL] at H2
  rw [hAl] at H3
  obtain ⟨v, r, pw, x, u, g, pa, d, rsw, ppn⟩ := p
  clear hR hL hAl HV ha
  dsimp only at H1 H2 H3 ⊢
  have HB1 := Lib.hid ((Blk.new w #[.bool v, .bool r, .bool pw, .bool x, .bool u, .bool g, .bool pa, .bool d, .int .i64 rsw, .int .u64 ppn] 135).alloc (.cells #[.bool true, .bool false, .bool false] 89))
  have HB2 := Lib.hid (Blk.new (w.alloc (.cells #[.bool v, .bool r, .bool pw, .bool x, .bool u, .bool g, .bool pa, .bool d, .int .i64 rsw, .int .u64 ppn] 135)) #[.bool true, .bool false, .bool false] 89)
  have HC := Lib.hid (((Chg.refl NoB w).alloc (.cells #[.bool v, .bool r, .bool pw, .bool x, .bool u, .bool g, .bool pa, .bool d, .int .i64 rsw, .int .u64 ppn] 135)).alloc (.cells #[.bool true, .bool false, .bool false] 89))
  go_enter Tryz.func56, Tryz.ntmps56
  go_upto_region 1 with fail
  rw [World.size_alloc] at HB2
  generalize (w.alloc (.cells #[.bool v, .bool r, .bool pw, .bool x, .bool u, .bool g, .bool pa, .bool d, .int .i64 rsw, .int .u64 ppn] 135)).alloc (.cells #[.bool true, .bool false, .bool false] 89) = w0 at *
  have f1 := HB1.out.ever
  have f2 := HB2.out.ever
  have l1 := HB1.out.everL
  have l2 := HB2.out.everL
  have c0 := Chg.refl NoB w0
  clear HB1 HB2
  cases R
  · go_wp2_with fail
    with_reducible refine (H1.out _).mono ?_
    rintro e w1 ⟨rfl, C1⟩
    go_wp2_with fail
    go_ret
    exact ⟨rfl, HC.out.step C1⟩
  cases L
  · go_wp2_with fail
    with_reducible refine (H1.out _).mono ?_
    rintro e w1 ⟨rfl, C1⟩
    go_wp2_with fail
    with_reducible refine (H2.out _).mono ?_
    rintro e w2 ⟨rfl, C2⟩
    have C2 := C1.step C2
    go_wp2_with fail
    go_ret
    exact ⟨rfl, HC.out.step C2⟩
  cases pa
  · go_wp2_with fail
    with_reducible refine (H1.out _).mono ?_
    rintro e w1 ⟨rfl, C1⟩
    go_wp2_with fail
    with_reducible refine (H2.out _).mono ?_
    rintro e w2 ⟨rfl, C2⟩
    have C2 := C1.step C2
    go_wp2_with fail
    go_ret
    exact ⟨rfl, HC.out.step C2⟩
  cases u
  · go_wp2_with fail
    with_reducible refine (H1.out _).mono ?_
    rintro e w1 ⟨rfl, C1⟩
    go_wp2_with fail
    with_reducible refine (H2.out _).mono ?_
    rintro e w2 ⟨rfl, C2⟩
    have C2 := C1.step C2
    go_wp2_with fail
    go_ret
    exact ⟨rfl, HC.out.step C2⟩
  · go_wp2_with fail
    with_reducible refine (H1.out _).mono ?_
    rintro e w1 ⟨rfl, C1⟩
    go_wp2_with fail
    with_reducible refine (H2.out _).mono ?_
    rintro e w2 ⟨rfl, C2⟩
    have C2 := C1.step C2
    go_wp2_with fail
    with_reducible refine (H3.out _).mono ?_
    rintro e w3 ⟨rfl, C3⟩
    have C3 := C2.step C3
    go_wp2_with fail
    go_ret
    exact ⟨by simp, HC.out.step C3⟩
set_option maxRecDepth 100000 in
theorem known_any (a : Int) (ha : Acc a) (w : World) : Calls Tryz.prog 134 #[.int .i64 a] w (RetW (.bool true) fun w' => w' = w) := by
  rcases ha with rfl | rfl | rfl
  all_goals
    go_enter Tryz.func134, Tryz.ntmps134
    go_wp2_with fail
    go_ret
    exact ⟨rfl, rfl⟩
def pick3 (a x y z : Int) : Int := if a = 0 then x else if a = 1 then y else z
set_option maxRecDepth 100000 in
theorem causeOf_any (a x y z : Int) (ha : Acc a) (w : World) : Calls Tryz.prog 97 #[.int .i64 a, .agg #[.int .i64 x, .int .i64 y, .int .i64 z]] w (RetW (.int .i64 (pick3 a x y z)) fun w' => Chg NoB w w') := by
  have HK := Lib.hid fun w' => known_any a ha w'
  have HC := Lib.hid ((Chg.refl NoB w).alloc (.cells #[.int .i64 x, .int .i64 y, .int .i64 z] 186))
  rcases ha with rfl | rfl | rfl
  all_goals
    go_enter Tryz.func97, Tryz.ntmps97
    go_wp2_with fail
    with_reducible refine (HK.out _).mono ?_
    rintro e w1 ⟨rfl, hw1⟩
    subst hw1
    go_wp2_with fail
    go_ret
    exact ⟨rfl, HC.out⟩
set_option maxRecDepth 100000 in
theorem pageC_any (a : Int) (ha : Acc a) (w : World) : Calls Tryz.prog 57 #[.int .i64 a] w (RetW (.int .i64 (pageC a)) fun w' => Chg NoB w w') := by
  rcases ha with rfl | rfl | rfl
  · go_enter Tryz.func57, Tryz.ntmps57
    go_wp2_with fail
    with_reducible refine (causeOf_any 0 12 13 15 (by unfold Acc; omega) _).mono ?_
    rintro e w1 ⟨rfl, C1⟩
    go_wp2_with fail
    go_ret
    exact ⟨rfl, C1⟩
  · go_enter Tryz.func57, Tryz.ntmps57
    go_wp2_with fail
    with_reducible refine (causeOf_any 1 12 13 15 (by unfold Acc; omega) _).mono ?_
    rintro e w1 ⟨rfl, C1⟩
    go_wp2_with fail
    go_ret
    exact ⟨rfl, C1⟩
  · go_enter Tryz.func57, Tryz.ntmps57
    go_wp2_with fail
    with_reducible refine (causeOf_any 2 12 13 15 (by unfold Acc; omega) _).mono ?_
    rintro e w1 ⟨rfl, C1⟩
    go_wp2_with fail
    go_ret
    exact ⟨rfl, C1⟩
set_option maxRecDepth 100000 in
theorem boundC_any (a : Int) (ha : Acc a) (w : World) : Calls Tryz.prog 60 #[.int .i64 a] w (RetW (.int .i64 (boundC a)) fun w' => Chg NoB w w') := by
  rcases ha with rfl | rfl | rfl
  · go_enter Tryz.func60, Tryz.ntmps60
    go_wp2_with fail
    with_reducible refine (causeOf_any 0 1 5 7 (by unfold Acc; omega) _).mono ?_
    rintro e w1 ⟨rfl, C1⟩
    go_wp2_with fail
    go_ret
    exact ⟨rfl, C1⟩
  · go_enter Tryz.func60, Tryz.ntmps60
    go_wp2_with fail
    with_reducible refine (causeOf_any 1 1 5 7 (by unfold Acc; omega) _).mono ?_
    rintro e w1 ⟨rfl, C1⟩
    go_wp2_with fail
    go_ret
    exact ⟨rfl, C1⟩
  · go_enter Tryz.func60, Tryz.ntmps60
    go_wp2_with fail
    with_reducible refine (causeOf_any 2 1 5 7 (by unfold Acc; omega) _).mono ?_
    rintro e w1 ⟨rfl, C1⟩
    go_wp2_with fail
    go_ret
    exact ⟨rfl, C1⟩
set_option maxRecDepth 100000 in
theorem alignC_any (a : Int) (ha : Acc a) (w : World) : Calls Tryz.prog 54 #[.int .i64 a] w (RetW (.int .i64 (alignC a)) fun w' => Chg NoB w w') := by
  rcases ha with rfl | rfl | rfl
  · go_enter Tryz.func54, Tryz.ntmps54
    go_wp2_with fail
    with_reducible refine (causeOf_any 0 0 4 6 (by unfold Acc; omega) _).mono ?_
    rintro e w1 ⟨rfl, C1⟩
    go_wp2_with fail
    go_ret
    exact ⟨rfl, C1⟩
  · go_enter Tryz.func54, Tryz.ntmps54
    go_wp2_with fail
    with_reducible refine (causeOf_any 1 0 4 6 (by unfold Acc; omega) _).mono ?_
    rintro e w1 ⟨rfl, C1⟩
    go_wp2_with fail
    go_ret
    exact ⟨rfl, C1⟩
  · go_enter Tryz.func54, Tryz.ntmps54
    go_wp2_with fail
    with_reducible refine (causeOf_any 2 0 4 6 (by unfold Acc; omega) _).mono ?_
    rintro e w1 ⟨rfl, C1⟩
    go_wp2_with fail
    go_ret
    exact ⟨rfl, C1⟩
end Go.Proofs.YtdjaeoeejcmhdaaGreatDoor
set_option linter.unusedVariables false
set_option linter.unusedSimpArgs false
namespace Go.Proofs.YtdjaeoeejcmhdaaGreatDoor
open Go.RowKit Go.RR
set_option maxRecDepth 100000 in
theorem places_any (b : Nat) (w : World) : Calls Tryz.prog 161 #[.pointer (some ⟨b, 0, none⟩)] w (RetW (.agg #[.pointer (some ⟨b, 0, none⟩), .pointer (some ⟨b, 1, none⟩), .pointer (some ⟨b, 2, none⟩), .pointer (some ⟨b, 3, none⟩), .pointer (some ⟨b, 4, none⟩), .pointer (some ⟨b, 5, none⟩), .pointer (some ⟨b, 6, none⟩), .pointer (some ⟨b, 7, none⟩)]) fun w' => Chg NoB w w') := by
  have HC := Lib.hid (Chg.refl NoB w)
  go_enter Tryz.func161, Tryz.ntmps161
  go_upto_region 1 with fail
  refine wp_region_mix 25 [(true, 0), (true, 1), (true, 2), (true, 3), (true, 4), (true, 5), (true, 6), (true, 7), (true, 8), (true, 9), (true, 10), (true, 11), (true, 12), (true, 13), (true, 14), (true, 15), (true, 16), (true, 17), (true, 18), (true, 19), (true, 20), (true, 21), (true, 22), (true, 23), (true, 24)] (fun _ => True) (by kernel_rfl) (by kernel_rfl) (fun _ _ _ _ _ h => h) (trivial) ?_
  simp only [pickMix_nil, pickMix_cons, Option.getD_some, List.getElem?_toArray, List.getElem?_cons_zero, List.getElem?_cons_succ, List.cons_append, List.nil_append, List.drop_succ_cons, List.drop_zero]
  iterate 25
   refine wpMix_take rfl ?_
   apply Exists.intro
   refine ⟨fun wS hS => ?_, ?_⟩
   · try dsimp only at hS
     have _ := hS
     go_simp
     try rfl
   simp only [Act.put, List.setIfInBounds_toArray, List.set_cons_zero, List.set_cons_succ]
  refine wpMix_nil ?_
  go_wp2_with fail
  exact bodyPost_ret (v := .agg #[.pointer (some ⟨b, 0, none⟩), .pointer (some ⟨b, 1, none⟩), .pointer (some ⟨b, 2, none⟩), .pointer (some ⟨b, 3, none⟩), .pointer (some ⟨b, 4, none⟩), .pointer (some ⟨b, 5, none⟩), .pointer (some ⟨b, 6, none⟩), .pointer (some ⟨b, 7, none⟩)]) (by simp [results, Tryz.results161, go_sem]) rfl ⟨rfl, by first | exact (HC.out.alloc _) | exact (HC.out.alloc _).drew | exact HC.out.drew.alloc _⟩
theorem places_at (b : Nat) (w : World) : ∀ i < 8, (Instr.index 252 (.agg #[.pointer (some ⟨b, 0, none⟩), .pointer (some ⟨b, 1, none⟩), .pointer (some ⟨b, 2, none⟩), .pointer (some ⟨b, 3, none⟩), .pointer (some ⟨b, 4, none⟩), .pointer (some ⟨b, 5, none⟩), .pointer (some ⟨b, 6, none⟩), .pointer (some ⟨b, 7, none⟩)]) (.int .i64 (i : Nat))).run Tryz.prog w = .ok (.pointer (some ⟨b, i, none⟩)) w
  | 0, _ | 1, _ | 2, _ | 3, _ | 4, _ | 5, _ | 6, _ | 7, _ => by kernel_rfl
/-- An entry of which the first i flags are told. -/
def flC (f : Nat → Bool) (i : Nat) : Array Value := #[.bool (decide (0 < i) && f 0), .bool (decide (1 < i) && f 1), .bool (decide (2 < i) && f 2), .bool (decide (3 < i) && f 3), .bool (decide (4 < i) && f 4), .bool (decide (5 < i) && f 5), .bool (decide (6 < i) && f 6), .bool (decide (7 < i) && f 7), .int .i64 0, .int .u64 0]
theorem flC_set (f : Nat → Bool) : ∀ i < 8, (flC f i).setIfInBounds i (.bool (f i)) = flC f (i + 1)
  | 0, _ | 1, _ | 2, _ | 3, _ | 4, _ | 5, _ | 6, _ | 7, _ => by simp [flC]
theorem flC_at (f : Nat → Bool) : ∀ i < 8, (flC f i)[i]? = some (.bool false)
  | 0, _ | 1, _ | 2, _ | 3, _ | 4, _ | 5, _ | 6, _ | 7, _ => by simp [flC]
def flB (l : List Bool) (i : Nat) : Bool := l.getD i false
set_option maxHeartbeats 4000000 in
set_option maxRecDepth 100000 in
theorem flags_txt (t : ByteArray) (f : Nat → Bool) (hsz : t.size = 8) (h : ∀ i (h1 : i < t.size) (h2 : i < 8), (((t[i]'h1).toNat : Int) == (((⟨#[118, 114, 119, 120, 117, 103, 97, 100]⟩ : ByteArray)[i]'h2).toNat : Int)) = f i ∧ (f i = false → (((t[i]'h1).toNat : Int) == 45) = true)) (w : World) : Calls Tryz.prog 123 #[.string t] w (RetW (.tuple #[.agg (flC f 8), .bool true]) fun w' => Chg NoB w w') := by
  have HC := Lib.hid (((Chg.refl NoB w).alloc (.cells #[.bool false, .bool false, .bool false, .bool false, .bool false, .bool false, .bool false, .bool false, .int .i64 0, .int .u64 0] 135)).alloc (.cells #[.bool false, .bool false, .bool false, .bool false, .bool false, .bool false, .bool false, .bool false, .int .i64 0, .int .u64 0] 135))
  have HB := Lib.hid (Blk.new (w.alloc (.cells #[.bool false, .bool false, .bool false, .bool false, .bool false, .bool false, .bool false, .bool false, .int .i64 0, .int .u64 0] 135)) #[.bool false, .bool false, .bool false, .bool false, .bool false, .bool false, .bool false, .bool false, .int .i64 0, .int .u64 0] 135)
  have HR := Lib.hid ((Blk.new w #[.bool false, .bool false, .bool false, .bool false, .bool false, .bool false, .bool false, .bool false, .int .i64 0, .int .u64 0] 135).alloc (.cells #[.bool false, .bool false, .bool false, .bool false, .bool false, .bool false, .bool false, .bool false, .int .i64 0, .int .u64 0] 135))
  rw [World.size_alloc] at HB
  have HPl := Lib.hid fun w' => places_any (w.heap.size + 1) w'
  have HT := Lib.hid h
  clear h
  go_enter Tryz.func123, Tryz.ntmps123
  go_upto_region 4 with fail
  generalize (w.alloc (.cells #[.bool false, .bool false, .bool false, .bool false, .bool false, .bool false, .bool false, .bool false, .int .i64 0, .int .u64 0] 135)).alloc (.cells #[.bool false, .bool false, .bool false, .bool false, .bool false, .bool false, .bool false, .bool false, .int .i64 0, .int .u64 0] 135) = w0 at *
  go_wp2_with fail
  refine (HPl.out _).mono ?_
  rintro e w1 ⟨rfl, C1⟩
  have HB1 := Lib.hid (C1.blk0 HB.out)
  have HR1 := Lib.hid (C1.blk0 HR.out)
  have HC1 := Lib.hid (HC.out.step C1)
  clear C1
  go_wp2_with fail
  go_loopg [12] 9 (fun k v wr => Chg NoB w wr ∧ Blk wr w.heap.size #[.bool false, .bool false, .bool false, .bool false, .bool false, .bool false, .bool false, .bool false, .int .i64 0, .int .u64 0] 135 ∧ ∃ i : Nat, i + k = 9 ∧ i ≤ 8 ∧ v = .int .i64 i ∧ Blk wr (w.heap.size + 1) (flC f i) 135)
  case atStart => exact ⟨HC1.out, HR1.out, 0, rfl, by omega, rfl, HB1.out⟩
  case round =>
    obtain ⟨hc, hr, i, hik, hi, rfl, hp⟩ := hrel
    have HCr := Lib.hid hc
    have HRr := Lib.hid hr
    have HIK := Lib.hid hik
    clear hc hr hik HC HB HR HPl HB1 HR1 HC1
    by_cases h8 : i = 8
    · subst h8
      have g := HRr.out.cell
      have gl := HRr.out.lt
      have gz := HRr.out.frozen
      have HP := Lib.hid hp
      simp [flC] at hp
      have fc := hp.cell
      have fl := hp.lt
      clear hp
      go_wp2_with fail
      exact bodyPost_ret (v := .tuple #[.agg (flC f 8), .bool true]) (by simp [results, Tryz.results123, go_sem, g, gl, flC]) rfl ⟨rfl, ((((((((((HCr.out.setCell (.inr (Nat.le_refl _)) _).setCell (.inr (Nat.le_refl _)) _).setCell (.inr (Nat.le_refl _)) _).setCell (.inr (Nat.le_refl _)) _).setCell (.inr (Nat.le_refl _)) _).setCell (.inr (Nat.le_refl _)) _).setCell (.inr (Nat.le_refl _)) _).setCell (.inr (Nat.le_refl _)) _).setCell (.inr (Nat.le_refl _)) _).setCell (.inr (Nat.le_refl _)) _)⟩
    · have hlt : i < 8 := by omega
      obtain ⟨bt, hbt⟩ : ∃ x, f i = x := ⟨_, rfl⟩
      have HX := Lib.hid (And.intro (hp.set i (.bool (f i))) (And.intro (HCr.out.setCell (a := ⟨w.heap.size + 1, i, none⟩) (.inr (Nat.le_succ _)) (.bool (f i))) (HRr.out.set_ne (a := ⟨w.heap.size + 1, i, none⟩) (by show w.heap.size ≠ w.heap.size + 1; omega) (.bool (f i)))))
      rw [flC_set f i hlt, hbt] at HX
      have ht := HT.out i (by omega) hlt
      rw [hbt] at ht
      obtain ⟨b1, b2⟩ := ht
      have ix := fun w' => places_at (w.heap.size + 1) w' i hlt
      obtain ⟨m, hm⟩ : ∃ m, i + 1 + m = 9 := ⟨8 - i, by omega⟩
      have HM := Lib.hid hm
      have q1 : IntKind.i64.wrap (i : Int) = i := IntWalk.i64_in _ (by omega)
      have q2 : IntKind.i64.wrap ((i : Int) + 1) = ((i + 1 : Nat) : Int) := IntWalk.i64_in _ (by omega)
      have n2 : (i : Int).toNat = i := Int.toNat_natCast i
      have n3 : (0 : Int) ≤ i := by omega
      have n4 : (i : Int) < 8 := by omega
      have t1 : decide ((i : Int) < 8) = true := decide_eq_true (by omega)
      have t1' : decide (i < 8) = true := decide_eq_true hlt
      have fc := hp.cell' (i := i) (v := .bool false) (flC_at f i hlt)
      have fl := hp.lt
      have fz := hp.frozen
      have HL := Lib.hid hlt
      clear hp h8 hm hbt
      cases bt
      · have b3 := b2 rfl
        clear b2
        go_upto_region 7 with fail
        refine wp_region_mix 8 [(true, 0), (true, 1), (true, 2), (true, 3), (true, 4), (true, 5), (true, 6), (true, 7)] (fun _ => True) (by kernel_rfl) (by kernel_rfl) (fun _ _ _ _ _ h => h) (trivial) ?_
        simp only [pickMix_nil, pickMix_cons, Option.getD_some, List.getElem?_toArray, List.getElem?_cons_zero, List.getElem?_cons_succ, List.cons_append, List.nil_append, List.drop_succ_cons, List.drop_zero]
        iterate 8
         refine wpMix_take rfl ?_
         apply Exists.intro
         refine ⟨fun wS hS => ?_, ?_⟩
         · try dsimp only at hS
           have _ := hS
           go_simp
           try rfl
         simp only [Act.put, List.setIfInBounds_toArray, List.set_cons_zero, List.set_cons_succ]
        refine wpMix_nil ?_
        go_wp2_with fail
        go_roundg m
        case rel => exact ⟨HX.out.2.1.drew, HX.out.2.2, i + 1, HM.out, by have := HL.out; omega, by go_num, HX.out.1⟩
        case measure => have := HM.out; have := HIK.out; omega
      · clear b2
        go_upto_region 7 with fail
        refine wp_region_mix 8 [(true, 0), (true, 1), (true, 2), (true, 3), (true, 4), (true, 5), (true, 6), (true, 7)] (fun _ => True) (by kernel_rfl) (by kernel_rfl) (fun _ _ _ _ _ h => h) (trivial) ?_
        simp only [pickMix_nil, pickMix_cons, Option.getD_some, List.getElem?_toArray, List.getElem?_cons_zero, List.getElem?_cons_succ, List.cons_append, List.nil_append, List.drop_succ_cons, List.drop_zero]
        iterate 8
         refine wpMix_take rfl ?_
         apply Exists.intro
         refine ⟨fun wS hS => ?_, ?_⟩
         · try dsimp only at hS
           have _ := hS
           go_simp
           try rfl
         simp only [Act.put, List.setIfInBounds_toArray, List.set_cons_zero, List.set_cons_succ]
        refine wpMix_nil ?_
        go_wp2_with fail
        go_roundg m
        case rel => exact ⟨HX.out.2.1.drew, HX.out.2.2, i + 1, HM.out, by have := HL.out; omega, by go_num, HX.out.1⟩
        case measure => have := HM.out; have := HIK.out; omega
theorem flags_code (w : World) : Calls Tryz.prog 123 #[.string ⟨#[118, 114, 45, 120, 117, 45, 97, 45]⟩] w (RetW (.tuple #[.agg #[.bool true, .bool true, .bool false, .bool true, .bool true, .bool false, .bool true, .bool false, .int .i64 0, .int .u64 0], .bool true]) fun w' => Chg NoB w w') :=
  flags_txt ⟨#[118, 114, 45, 120, 117, 45, 97, 45]⟩ (flB [true, true, false, true, true, false, true, false]) rfl (fun i _ h => match i, h with | 0, _ | 1, _ | 2, _ | 3, _ | 4, _ | 5, _ | 6, _ | 7, _ => ⟨rfl, fun e => by first | rfl | exact absurd e (by decide)⟩) w
theorem flags_own (w : World) : Calls Tryz.prog 123 #[.string ⟨#[118, 114, 119, 45, 117, 45, 97, 100]⟩] w (RetW (.tuple #[.agg #[.bool true, .bool true, .bool true, .bool false, .bool true, .bool false, .bool true, .bool true, .int .i64 0, .int .u64 0], .bool true]) fun w' => Chg NoB w w') :=
  flags_txt ⟨#[118, 114, 119, 45, 117, 45, 97, 100]⟩ (flB [true, true, true, false, true, false, true, true]) rfl (fun i _ h => match i, h with | 0, _ | 1, _ | 2, _ | 3, _ | 4, _ | 5, _ | 6, _ | 7, _ => ⟨rfl, fun e => by first | rfl | exact absurd e (by decide)⟩) w
theorem flags_read (w : World) : Calls Tryz.prog 123 #[.string ⟨#[118, 114, 45, 45, 117, 45, 97, 45]⟩] w (RetW (.tuple #[.agg #[.bool true, .bool true, .bool false, .bool false, .bool true, .bool false, .bool true, .bool false, .int .i64 0, .int .u64 0], .bool true]) fun w' => Chg NoB w w') :=
  flags_txt ⟨#[118, 114, 45, 45, 117, 45, 97, 45]⟩ (flB [true, true, false, false, true, false, true, false]) rfl (fun i _ h => match i, h with | 0, _ | 1, _ | 2, _ | 3, _ | 4, _ | 5, _ | 6, _ | 7, _ => ⟨rfl, fun e => by first | rfl | exact absurd e (by decide)⟩) w
end Go.Proofs.YtdjaeoeejcmhdaaGreatDoor
set_option linter.unusedVariables false
set_option linter.unusedSimpArgs false
namespace Go.Proofs.YtdjaeoeejcmhdaaGreatDoor
open Go.RowKit Go.RR
set_option maxRecDepth 100000 in
theorem entry_code (f : Nat) (hf : f < 17592186044416) (w : World) : Calls Tryz.prog 82 #[.string ⟨#[118, 114, 45, 120, 117, 45, 97, 45]⟩, .int .i64 f] w (RetW (.agg #[.bool true, .bool true, .bool false, .bool true, .bool true, .bool false, .bool true, .bool false, .int .i64 0, .int .u64 f]) fun w' => Chg NoB w w') := by
  have HF := Lib.hid fun w' => flags_code w'
  have HC := Lib.hid ((Chg.refl NoB w).alloc (.cells #[.bool false, .bool false, .bool false, .bool false, .bool false, .bool false, .bool false, .bool false, .int .i64 0, .int .u64 0] 135))
  have HR := Lib.hid (Blk.new w #[.bool false, .bool false, .bool false, .bool false, .bool false, .bool false, .bool false, .bool false, .int .i64 0, .int .u64 0] 135)
  go_enter Tryz.func82, Tryz.ntmps82
  go_upto_region 1 with fail
  generalize w.alloc (.cells #[.bool false, .bool false, .bool false, .bool false, .bool false, .bool false, .bool false, .bool false, .int .i64 0, .int .u64 0] 135) = w0 at *
  go_wp2_with fail
  refine (HF.out _).mono ?_
  rintro e w1 ⟨rfl, C1⟩
  have fr := (C1.blk0 HR.out).cell
  have fz := (C1.blk0 HR.out).frozen
  have fl := (C1.blk0 HR.out).lt
  have HCC := Lib.hid (HC.out.step C1)
  clear C1
  go_wp2_with fail
  exact bodyPost_ret (v := .agg #[.bool true, .bool true, .bool false, .bool true, .bool true, .bool false, .bool true, .bool false, .int .i64 0, .int .u64 f]) (by simp [results, Tryz.results82, go_sem, fr, fl]) rfl ⟨rfl, by first | exact (((((((((((HCC.out.setCell (.inr (Nat.le_refl _)) _).setCell (.inr (Nat.le_refl _)) _).setCell (.inr (Nat.le_refl _)) _).setCell (.inr (Nat.le_refl _)) _).setCell (.inr (Nat.le_refl _)) _).setCell (.inr (Nat.le_refl _)) _).setCell (.inr (Nat.le_refl _)) _).setCell (.inr (Nat.le_refl _)) _).setCell (.inr (Nat.le_refl _)) _).setCell (.inr (Nat.le_refl _)) _)).alloc _ | exact ((((((((((((HCC.out.alloc _).setCell (.inr (Nat.le_refl _)) _).setCell (.inr (Nat.le_refl _)) _).setCell (.inr (Nat.le_refl _)) _).setCell (.inr (Nat.le_refl _)) _).setCell (.inr (Nat.le_refl _)) _).setCell (.inr (Nat.le_refl _)) _).setCell (.inr (Nat.le_refl _)) _).setCell (.inr (Nat.le_refl _)) _).setCell (.inr (Nat.le_refl _)) _).setCell (.inr (Nat.le_refl _)) _))⟩
set_option maxRecDepth 100000 in
theorem entry_own (f : Nat) (hf : f < 17592186044416) (w : World) : Calls Tryz.prog 82 #[.string ⟨#[118, 114, 119, 45, 117, 45, 97, 100]⟩, .int .i64 f] w (RetW (.agg #[.bool true, .bool true, .bool true, .bool false, .bool true, .bool false, .bool true, .bool true, .int .i64 0, .int .u64 f]) fun w' => Chg NoB w w') := by
  have HF := Lib.hid fun w' => flags_own w'
  have HC := Lib.hid ((Chg.refl NoB w).alloc (.cells #[.bool false, .bool false, .bool false, .bool false, .bool false, .bool false, .bool false, .bool false, .int .i64 0, .int .u64 0] 135))
  have HR := Lib.hid (Blk.new w #[.bool false, .bool false, .bool false, .bool false, .bool false, .bool false, .bool false, .bool false, .int .i64 0, .int .u64 0] 135)
  go_enter Tryz.func82, Tryz.ntmps82
  go_upto_region 1 with fail
  generalize w.alloc (.cells #[.bool false, .bool false, .bool false, .bool false, .bool false, .bool false, .bool false, .bool false, .int .i64 0, .int .u64 0] 135) = w0 at *
  go_wp2_with fail
  refine (HF.out _).mono ?_
  rintro e w1 ⟨rfl, C1⟩
  have fr := (C1.blk0 HR.out).cell
  have fz := (C1.blk0 HR.out).frozen
  have fl := (C1.blk0 HR.out).lt
  have HCC := Lib.hid (HC.out.step C1)
  clear C1
  go_wp2_with fail
  exact bodyPost_ret (v := .agg #[.bool true, .bool true, .bool true, .bool false, .bool true, .bool false, .bool true, .bool true, .int .i64 0, .int .u64 f]) (by simp [results, Tryz.results82, go_sem, fr, fl]) rfl ⟨rfl, by first | exact (((((((((((HCC.out.setCell (.inr (Nat.le_refl _)) _).setCell (.inr (Nat.le_refl _)) _).setCell (.inr (Nat.le_refl _)) _).setCell (.inr (Nat.le_refl _)) _).setCell (.inr (Nat.le_refl _)) _).setCell (.inr (Nat.le_refl _)) _).setCell (.inr (Nat.le_refl _)) _).setCell (.inr (Nat.le_refl _)) _).setCell (.inr (Nat.le_refl _)) _).setCell (.inr (Nat.le_refl _)) _)).alloc _ | exact ((((((((((((HCC.out.alloc _).setCell (.inr (Nat.le_refl _)) _).setCell (.inr (Nat.le_refl _)) _).setCell (.inr (Nat.le_refl _)) _).setCell (.inr (Nat.le_refl _)) _).setCell (.inr (Nat.le_refl _)) _).setCell (.inr (Nat.le_refl _)) _).setCell (.inr (Nat.le_refl _)) _).setCell (.inr (Nat.le_refl _)) _).setCell (.inr (Nat.le_refl _)) _).setCell (.inr (Nat.le_refl _)) _))⟩
set_option maxRecDepth 100000 in
theorem entry_read (f : Nat) (hf : f < 17592186044416) (w : World) : Calls Tryz.prog 82 #[.string ⟨#[118, 114, 45, 45, 117, 45, 97, 45]⟩, .int .i64 f] w (RetW (.agg #[.bool true, .bool true, .bool false, .bool false, .bool true, .bool false, .bool true, .bool false, .int .i64 0, .int .u64 f]) fun w' => Chg NoB w w') := by
  have HF := Lib.hid fun w' => flags_read w'
  have HC := Lib.hid ((Chg.refl NoB w).alloc (.cells #[.bool false, .bool false, .bool false, .bool false, .bool false, .bool false, .bool false, .bool false, .int .i64 0, .int .u64 0] 135))
  have HR := Lib.hid (Blk.new w #[.bool false, .bool false, .bool false, .bool false, .bool false, .bool false, .bool false, .bool false, .int .i64 0, .int .u64 0] 135)
  go_enter Tryz.func82, Tryz.ntmps82
  go_upto_region 1 with fail
  generalize w.alloc (.cells #[.bool false, .bool false, .bool false, .bool false, .bool false, .bool false, .bool false, .bool false, .int .i64 0, .int .u64 0] 135) = w0 at *
  go_wp2_with fail
  refine (HF.out _).mono ?_
  rintro e w1 ⟨rfl, C1⟩
  have fr := (C1.blk0 HR.out).cell
  have fz := (C1.blk0 HR.out).frozen
  have fl := (C1.blk0 HR.out).lt
  have HCC := Lib.hid (HC.out.step C1)
  clear C1
  go_wp2_with fail
  exact bodyPost_ret (v := .agg #[.bool true, .bool true, .bool false, .bool false, .bool true, .bool false, .bool true, .bool false, .int .i64 0, .int .u64 f]) (by simp [results, Tryz.results82, go_sem, fr, fl]) rfl ⟨rfl, by first | exact (((((((((((HCC.out.setCell (.inr (Nat.le_refl _)) _).setCell (.inr (Nat.le_refl _)) _).setCell (.inr (Nat.le_refl _)) _).setCell (.inr (Nat.le_refl _)) _).setCell (.inr (Nat.le_refl _)) _).setCell (.inr (Nat.le_refl _)) _).setCell (.inr (Nat.le_refl _)) _).setCell (.inr (Nat.le_refl _)) _).setCell (.inr (Nat.le_refl _)) _).setCell (.inr (Nat.le_refl _)) _)).alloc _ | exact ((((((((((((HCC.out.alloc _).setCell (.inr (Nat.le_refl _)) _).setCell (.inr (Nat.le_refl _)) _).setCell (.inr (Nat.le_refl _)) _).setCell (.inr (Nat.le_refl _)) _).setCell (.inr (Nat.le_refl _)) _).setCell (.inr (Nat.le_refl _)) _).setCell (.inr (Nat.le_refl _)) _).setCell (.inr (Nat.le_refl _)) _).setCell (.inr (Nat.le_refl _)) _).setCell (.inr (Nat.le_refl _)) _))⟩
set_option maxRecDepth 100000 in
theorem va_any (p : Nat) (hp : p ≤ 65536) (w : World) : Calls Tryz.prog 92 #[.int .i64 p] w (RetW (.int .u64 (vaOf p)) fun w' => w' = w) := by
  have hv : Hid (((vaOf (p : Int) : Nat) : Int) = 1073741824 + (p : Int) * 4096) := Lib.hid (by unfold vaOf; simp)
  have h1 : (p : Int) ≤ 65536 := by omega
  have h2 : (p : Int) * 4096 % 18446744073709551616 = (p : Int) * 4096 := by omega
  have h3 : (1073741824 + (p : Int) * 4096) % 18446744073709551616 = 1073741824 + (p : Int) * 4096 := by omega
  go_enter Tryz.func92, Tryz.ntmps92
  go_wp2_with fail
  go_ret
  exact ⟨congrArg (fun z : Int => Ending.returned (Value.int .u64 z)) hv.out.symm, rfl⟩
set_option maxRecDepth 100000 in
theorem shapeRight_any (s : Shp) (w : World) : Calls Tryz.prog 31 #[.agg #[.int .i64 s.code, .int .i64 s.priv, .int .i64 s.shared]] w (RetW (.bool s.ok) fun w' => Chg NoB w w') := by
  obtain ⟨c, p, sh⟩ := s
  have HC := Lib.hid ((Chg.refl NoB w).alloc (.cells #[.int .i64 c, .int .i64 p, .int .i64 sh] 59))
  obtain ⟨q1, h1⟩ : ∃ q, decide (1 ≤ c) = q := ⟨_, rfl⟩
  obtain ⟨q2, h2⟩ : ∃ q, decide (c ≤ 16) = q := ⟨_, rfl⟩
  obtain ⟨q3, h3⟩ : ∃ q, decide (0 ≤ p) = q := ⟨_, rfl⟩
  obtain ⟨q4, h4⟩ : ∃ q, decide (p ≤ 16) = q := ⟨_, rfl⟩
  obtain ⟨q5, h5⟩ : ∃ q, decide (0 ≤ sh) = q := ⟨_, rfl⟩
  obtain ⟨q6, h6⟩ : ∃ q, decide (sh ≤ 65536) = q := ⟨_, rfl⟩
  have HV : Hid (Shp.ok ⟨c, p, sh⟩ = (q1 && (q2 && (q3 && (q4 && (q5 && q6)))))) := Lib.hid (by unfold Shp.ok; rw [h1, h2, h3, h4, h5, h6])
  rw [HV.out]
  clear HV
  cases q1
  · go_enter Tryz.func31, Tryz.ntmps31
    go_wp2_with fail
    go_ret
    exact ⟨rfl, HC.out⟩
  cases q2
  · go_enter Tryz.func31, Tryz.ntmps31
    go_wp2_with fail
    go_ret
    exact ⟨rfl, HC.out⟩
  cases q3
  · go_enter Tryz.func31, Tryz.ntmps31
    go_wp2_with fail
    go_ret
    exact ⟨rfl, HC.out⟩
  cases q4
  · go_enter Tryz.func31, Tryz.ntmps31
    go_wp2_with fail
    go_ret
    exact ⟨rfl, HC.out⟩
  cases q5
  · go_enter Tryz.func31, Tryz.ntmps31
    go_wp2_with fail
    go_ret
    exact ⟨rfl, HC.out⟩
  · go_enter Tryz.func31, Tryz.ntmps31
    go_wp2_with fail
    go_ret
    exact ⟨by simp, HC.out⟩
end Go.Proofs.YtdjaeoeejcmhdaaGreatDoor
set_option linter.unusedVariables false
namespace Go.Proofs.YtdjaeoeejcmhdaaGreatDoor
open Go.RowKit Go.RR


theorem b_elem : (Tryz.prog.info? 5).map (fun i => (i.zero, i.size, i.bytes)) = some (some (.int .u8 0), 1, 1) := by kernel_rfl

set_option maxHeartbeats 400000 in
set_option maxRecDepth 100000 in
theorem b_clone (S : Nat → Prop) (v : Value) (n : Nat) (us : List Value) (w : World) (hs : Sl w S 1 v n us) (one : ∀ u ∈ us, u.oneCell' = true) (hn : n * 1 ≤ 140737488355328) (hm : n ≤ maxLen) :
    Calls Tryz.prog 129 #[v] w (RetV fun v' w' => Own w' (fun k => w.heap.size ≤ k) 5 1 v' n us ∧ Chg NoB w w') := by
  obtain ⟨i0, hi0, hz0, hz1, hz2⟩ := info_parts b_elem
  have hs' := hs
  obtain ⟨h1, p, cap, rfl, hcap, hc⟩ := hs
  have heq := fun w' => Lib.run_eql_slice_nil (P := Tryz.prog) w' 50 5 p n cap 0 0 Tryz.underlying50
  cases p with
  | none =>
    have h0 : n = 0 := by
      rcases Nat.eq_zero_or_pos n with h | h
      · exact h
      · obtain ⟨_, _, h, _⟩ := hc h; cases h
    subst h0
    obtain rfl : us = [] := List.eq_nil_of_length_eq_zero (by simpa using h1)
    clear hs' hc h1
    go_enter Tryz.func129, Tryz.ntmps129
    go_wp2
    go_ret
    exact ⟨_, rfl, Own.nil _ _ _ _, Chg.refl _ _⟩
  | some a =>
    have o1 : Own (w.alloc (.cells #[] 5)) (fun k => k = w.heap.size) 5 1 (.slice (some ⟨w.heap.size, 0, none⟩) 0 0) 0 [] := Own.fresh w [] 5 0 rfl (by unfold maxLen; omega)
    have s1 := hs'.chg0 ((Chg.refl NoB w).alloc (.cells #[] 5))
    have b1 : 0 + n ≤ maxLen := by omega
    have b2 : (0 + n) * 1 ≤ 140737488355328 := by rw [Nat.zero_add]; exact hn
    clear hs' hc h1
    go_enter Tryz.func129, Tryz.ntmps129
    go_wp2_with (at_builtin; go_must (refine wpList_app rfl _ _ 50 rfl i0 _ 1 Tryz.underlying50 hi0 hz0 hz1 hz2 rfl rfl o1 _ n _ rfl s1 one b1 b2 ?_))
    intro v2 w2 o2 g2 _
    replace o2 : Own w2 (fun k => w.heap.size ≤ k) 5 1 v2 n us := by simpa using o2.mono (S' := fun k => w.heap.size ≤ k) (fun k hk => by simp [Value.ownBlock] at hk; omega)
    have C2 : Chg NoB w w2 := ((Chg.refl NoB w).alloc _).grown g2 (fun k hk => .inr (by simp [Value.ownBlock] at hk; omega))
    clear o1 s1 g2
    go_wp2
    go_ret
    exact ⟨_, rfl, o2, C2⟩
end Go.Proofs.YtdjaeoeejcmhdaaGreatDoor
