/- Each, lesser, with: what they answer, and what they leave; the closures of ShrinkEach. -/
import Derived.Test.YtokigldggkkbcaaShrinkFirst
import Derived.Laws.IdiomStrings
import Derived.Laws.BytesArg
import Derived.Lib.SlBytesConst
set_option linter.unusedVariables false
namespace Go.Proofs.Ytokigldggkkbcaa
open Go.RowKit Go.RR

def u8s (zs : List Int) : List Value := zs.map (fun z => Value.int .u8 (z % 256))
theorem u8s_len (zs : List Int) : (u8s zs).length = zs.length := by simp [u8s]
theorem u8s_at {zs : List Int} {i : Nat} {x : Int} (h : zs[i]? = some x) : (u8s zs)[i]? = some (.int .u8 (x % 256)) := by simp [u8s, h]
theorem u8s_one (zs : List Int) : ∀ u ∈ u8s zs, u.oneCell' = true := by simp [u8s, Value.oneCell']
theorem u8s_set (zs : List Int) (i : Nat) (x : Int) (h : 0 ≤ x ∧ x ≤ 255) : (u8s zs).set i (.int .u8 x) = u8s (zs.set i x) := by
  simp only [u8s, List.map_set, show x % 256 = x from by omega]
def tot : List Int → Nat
  | [] => 0
  | y :: l => (y % 256).toNat + tot l
theorem tot_app (a b : List Int) : tot (a ++ b) = tot a + tot b := by
  induction a with
  | nil => simp [tot]
  | cons y a ih => simp [tot, ih]; omega
theorem tot_le (a : List Int) : tot a ≤ 255 * a.length := by
  induction a with
  | nil => simp [tot]
  | cons y a ih => simp [tot]; omega
theorem tot_set : ∀ (l : List Int) (i : Nat) (y x : Int), l[i]? = some y → tot (l.set i x) + (y % 256).toNat = tot l + (x % 256).toNat
  | [], i, y, x, h => by simp at h
  | z :: l, 0, y, x, h => by simp at h; subst h; simp [tot]; omega
  | z :: l, i + 1, y, x, h => by
    have := tot_set l i y x (by simpa using h)
    simp [tot]; omega
def badE (s : Int) (zs : List Int) : Bool := decide (s ≤ (tot zs : Int))
def lessOf (v : Int) : List Int := if v = 0 then [] else [0, v / 2, v - 1]

set_option maxHeartbeats 1000000 in
set_option maxRecDepth 100000 in
theorem each_cl (ga : Nat) (v : Value) (s : Int) (zs : List Int) (Sv : Nat → Prop) (w : World) (hA : w.cell? ⟨ga, 0, none⟩ = some (.int .u8 s)) (hs : 0 ≤ s ∧ s ≤ 255) (hv : Sl w Sv 1 v zs.length (u8s zs)) (hz : zs.length ≤ 1000) (r : Bool) (hr : badE s zs = r) :
    Calls Try.prog 64 #[v, .pointer (some ⟨ga, 0, none⟩)] w (RetW (.bool r) fun w' => w = w') := by
  obtain ⟨pv, cv, rfl, hcv, hcell⟩ : ∃ p c, v = .slice p zs.length c ∧ zs.length ≤ c ∧ (0 < zs.length → ∃ g off, p = some ⟨g, off, none⟩ ∧ ∀ j u, (u8s zs)[j]? = some u → w.cell? ⟨g, off + j, none⟩ = some u) := by
    obtain ⟨-, p, c, e, h, h2⟩ := hv; exact ⟨p, c, e, h, fun h0 => by obtain ⟨g, off, e, -, -, h⟩ := h2 h0; exact ⟨g, off, e, h⟩⟩
  have HR := Lib.hid hr
  obtain ⟨hs0, hs1⟩ := hs
  clear hv hr
  have hgl := World.block_lt_of_cell? w _ hA
  simp only at hgl
  go_enter Try.func64, Try.ntmps64
  go_wp2
  go_loopg [4, 9] zs.length (fun m s ix wr => ∃ (j t : Nat), j + m = zs.length ∧ ix = .int .i64 j ∧ s = .int .i64 t ∧ tot (zs.take j) = t ∧ w = wr)
  case atStart => exact ⟨0, 0, by omega, rfl, rfl, rfl, rfl⟩
  case round =>
    obtain ⟨j, t, hj, rfl, rfl, ht, rfl⟩ := hrel
    have HJ := Lib.hid hj
    have HT := Lib.hid ht
    have hjw : j ≤ zs.length := by omega
    have htb : t ≤ 255000 := by have := tot_le (zs.take j); rw [List.length_take] at this; omega
    clear hj ht
    by_cases hlt2 : j < zs.length
    · obtain ⟨g, off, rfl, hc⟩ := hcell (by omega)
      obtain ⟨y, hy⟩ : ∃ y, zs[j]? = some y := ⟨zs[j], by simp [hlt2]⟩
      have hcy := hc j _ (u8s_at hy)
      have j0 : (0 : Int) ≤ j := by omega
      have j1 : (j : Int) < zs.length := by omega
      have hsn : tot (zs.take (j + 1)) = t + (y % 256).toNat := by rw [List.take_add_one, hy, tot_app, HT.out]; simp [tot]
      obtain ⟨q, hq⟩ : ∃ q : Nat, y % 256 = q := ⟨(y % 256).toNat, by omega⟩
      have hq1 : q ≤ 255 := by omega
      rw [hq] at hcy
      rw [hq, Int.toNat_natCast] at hsn
      have HSN := Lib.hid hsn
      clear hc hcell hy hsn hq
      go_wp2_with fail
      go_roundg (zs.length - (j + 1))
      case measure => have := HJ.out; omega
      case rel => exact ⟨j + 1, t + q, by have := HJ.out; omega, by go_num, by first | rfl | go_num | simp, HSN.out, rfl⟩
    · obtain rfl : j = zs.length := by have := HJ.out; omega
      have ht := HT.out
      rw [List.take_length] at ht
      have hr := HR.out
      unfold badE at hr
      rw [ht] at hr
      have HR2 := Lib.hid hr
      clear hcell ht hr
      by_cases h1 : s ≤ t
      · have d1 : decide (s ≤ (t : Int)) = true := by simpa using h1
        have hr := HR2.out
        rw [d1] at hr
        subst hr
        clear HR HR2
        go_wp2_with fail
        go_ret
        exact ⟨rfl, rfl⟩
      · have d1 : decide (s ≤ (t : Int)) = false := by simpa using h1
        have hr := HR2.out
        rw [d1] at hr
        subst hr
        clear HR HR2
        go_wp2_with fail
        go_ret
        exact ⟨rfl, rfl⟩

theorem asks_each (ga : Nat) (s : Int) (hs : 0 ≤ s ∧ s ≤ 255) (H : Nat) (hga : ga < H) :
    Asks 64 #[] #[.pointer (some ⟨ga, 0, none⟩)] 5 (fun z => Value.int .u8 (z % 256)) (badE s) 1000000000 H NoB (fun _ w => w.cell? ⟨ga, 0, none⟩ = some (.int .u8 s)) where
  old := fun k h => h.elim
  keep := fun n w w' h _ c => c.cell h (by simp only; omega)
  call := fun n w v zs Sv h _ hz hn hv hSv => (each_cl ga v s zs Sv w h hs hv.sl (by omega) _ rfl).mono fun e w' ⟨h1, h2⟩ => by
    subst h2; exact ⟨h1, h, Chg.refl _ _⟩
  enter := enters_of Try.func64 (by kernel_rfl) rfl

theorem less_cl (y : Int) (w : World) (h : 0 ≤ y ∧ y ≤ 255) : Calls Try.prog 65 #[.int .u8 y] w (RetV fun q w' => Sl w' (fun k => w.heap.size ≤ k) 1 q (lessOf y).length ((lessOf y).map (Value.int .u8)) ∧ Chg NoB w w') := by
  by_cases h0 : y = 0
  · subst h0
    go_enter Try.func65, Try.ntmps65
    go_wp2
    go_ret
    exact ⟨_, rfl, Sl.nil _ _ _, Chg.refl _ _⟩
  · have d : (y == 0) = false := by simp [h0]
    have hl : lessOf y = [0, y / 2, y - 1] := by unfold lessOf; rw [if_neg h0]
    have HL := Lib.hid hl
    have y0 : 0 ≤ y := h.1
    have y1 : y ≤ 255 := h.2
    have y2 : 1 ≤ y := by omega
    clear h h0 hl
    go_enter Try.func65, Try.ntmps65
    go_wp2
    go_ret
    rw [HL.out]
    exact ⟨_, rfl, (Sl.fresh w [Value.int .u8 0, .int .u8 (y / 2), .int .u8 (y - 1)] 5 3 rfl).mono fun k hk => by omega, (Chg.refl NoB w).alloc _⟩

set_option maxHeartbeats 1000000 in
set_option maxRecDepth 100000 in
theorem b_with (S : Nat → Prop) (w : World) (v : Value) (zs : List Int) (i : Nat) (x : Int) (hs : Sl w S 1 v zs.length (u8s zs)) (hz : zs.length ≤ 1000) (hi : i < zs.length) (hx : 0 ≤ x ∧ x ≤ 255) :
    Calls Try.prog 86 #[v, .int .i64 i, .int .u8 x] w (RetV fun q w' => Own w' (fun k => w.heap.size ≤ k) 5 1 q zs.length (u8s (zs.set i x)) ∧ Chg NoB w w') := by
  have HCL := Lib.hid (b_clone S v zs.length _ w hs (u8s_one zs) (by omega) (by unfold maxLen; omega))
  have HX := Lib.hid hx
  clear hs hx
  go_enter Try.func86, Try.ntmps86
  go_wp2_with fail
  refine HCL.out.mono ?_
  rintro e w1 ⟨q1, rfl, O1, C1⟩
  obtain ⟨g, off, cap, rfl, hg1, hcell, hgl, hfr⟩ : ∃ g off cap, q1 = .slice (some ⟨g, off, none⟩) zs.length cap ∧ w.heap.size ≤ g ∧ (∃ y, w1.cell? ⟨g, off + i, none⟩ = some (.int .u8 y)) ∧ g < w1.heap.size ∧ w1.frozen? ⟨g, off + i, none⟩ = false := by
    obtain ⟨-, ⟨-, h0⟩ | ⟨g, off, cap, cur, e, h1, h2, h3, h4, h5, h6⟩⟩ := O1
    · omega
    · have hy : zs[i]? = some (zs[i]'hi) := List.getElem?_eq_getElem _
      exact ⟨g, off, cap, e, h1, ⟨_, h2.cell' (h6 _ _ (u8s_at hy))⟩, h2.lt, h2.frozen _⟩
  obtain ⟨y, hcell⟩ := hcell
  have i0 : (0 : Int) ≤ i := by omega
  have i1 : (i : Int) < zs.length := by omega
  have HO := Lib.hid O1
  clear O1
  go_wp2_with fail
  go_ret
  have h1 := HO.out.set1 (k := i) hi (.int .u8 x)
  rw [u8s_set zs i x HX.out] at h1
  exact ⟨_, rfl, h1, C1.setCell (a := ⟨g, off + i, none⟩) (.inr hg1) _⟩

def LesserRes (p : List Int → Bool) (zs : List Int) (i : Nat) (y : Int) (w w' : World) (v q : Value) (ok : Bool) : Prop :=
  (ok = true ∧ ∃ x, x ∈ lessOf y ∧ p (zs.set i x) = true ∧ Own w' (fun k => w.heap.size ≤ k) 5 1 q zs.length (u8s (zs.set i x))) ∨ (ok = false ∧ q = v ∧ ∀ x ∈ lessOf y, p (zs.set i x) = false)

theorem lessOf_bd {y x : Int} (hy : 0 ≤ y ∧ y ≤ 255) (h : x ∈ lessOf y) : 0 ≤ x ∧ x ≤ 255 ∧ x < y := by
  unfold lessOf at h
  split at h
  · cases h
  · simp at h
    omega
theorem lessOf_len (y : Int) : (lessOf y).length ≤ 3 := by unfold lessOf; split <;> simp

set_option maxHeartbeats 1000000 in
set_option maxRecDepth 100000 in
theorem b_lesser {g : Nat} {fst lb : Array Value} {p : List Int → Bool} {B H : Nat} {S Sl' : Nat → Prop} {I : Nat → World → Prop} (h : Asks g fst lb 5 (fun z => Value.int .u8 (z % 256)) p B H S I) (w : World) (b n m : Nat) (v : Value) (zs : List Int) (i : Nat) (y : Int)
    (hB : Blk w b #[.func (.func g) fst lb, .int .i64 n] 141) (hb : H ≤ b) (hI : I m w) (hH : H ≤ w.heap.size) (hz : zs.length ≤ 200) (hi : i < zs.length) (hy : zs[i]? = some y) (hyb : 0 ≤ y ∧ y ≤ 255) (hm : m + 3 ≤ B) (hn : n ≤ 900000000) (hs : Sl w Sl' 1 v zs.length (u8s zs)) (hsb : ∀ k, Sl' k → k ≠ b ∧ ¬ S k) :
    Calls Try.prog 84 #[v, .int .i64 i, .func (.func 65) #[] #[], .pointer (some ⟨b, 0, none⟩)] w (RetV fun r w' => ∃ q ok c, r = .tuple #[q, .bool ok] ∧ LesserRes p zs i y w w' v q ok ∧ c ≤ 3 ∧ Blk w' b #[.func (.func g) fst lb, .int .i64 (n + c : Nat)] 141 ∧ I (m + c) w' ∧ Chg (fun k => S k ∨ k = b) w w') := by
  have HB := Lib.hid hB
  have HS := Lib.hid hs
  have e1 : ∀ args w, (callFunc 65 args).run Try.prog w = .ok (.enter 65 args) w := enters_of Try.func65 (by kernel_rfl) rfl
  obtain ⟨gv, ov, cv, rfl, hvc⟩ : ∃ g off c, v = .slice (some ⟨g, off, none⟩) zs.length c ∧ w.cell? ⟨g, off + i, none⟩ = some (.int .u8 y) := by
    obtain ⟨-, p, c, e, -, h2⟩ := hs
    obtain ⟨g, off, rfl, -, -, h5⟩ := h2 (by omega)
    have := h5 i _ (u8s_at hy)
    rw [show y % 256 = y from by omega] at this
    exact ⟨g, off, c, e, this⟩
  have HY := Lib.hid hy
  have HYB := Lib.hid hyb
  have hbl := hB.lt
  have i0 : (0 : Int) ≤ i := by omega
  have i1 : (i : Int) < zs.length := by omega
  have hll := lessOf_len y
  clear hB hs hy hyb
  go_enter Try.func84, Try.ntmps84
  go_wp2_with fail
  refine (less_cl y w HYB.out).mono ?_
  rintro e w1 ⟨q1, rfl, S1, C1⟩
  obtain ⟨p1, c1, rfl⟩ : ∃ p c, q1 = .slice p (lessOf y).length c := by obtain ⟨-, p, c, e, -⟩ := S1; exact ⟨p, c, e⟩
  have HS1 := Lib.hid S1
  have HI1 := Lib.hid (h.keep m w w1 hI hH (C1.mono fun _ _ h => h.elim))
  have HB1 := Lib.hid (C1.blk0 HB.out)
  have HSV1 := Lib.hid (HS.out.chg0 C1)
  have hz1 := C1.size
  clear S1 hI hvc e1
  go_wp2_with fail
  go_loopg [20] (lessOf y).length (fun r ix wr => ∃ j : Nat, j + r = (lessOf y).length ∧ ix = .int .i64 j ∧ (∀ k x, k < j → (lessOf y)[k]? = some x → p (zs.set i x) = false) ∧ Blk wr b #[.func (.func g) fst lb, .int .i64 (n + j : Nat)] 141 ∧ I (m + j) wr ∧ Chg (fun k => S k ∨ k = b) w1 wr)
  case atStart => exact ⟨0, by omega, rfl, fun k x hk => by omega, HB1.out, HI1.out, Chg.refl _ _⟩
  case round =>
    obtain ⟨j, hj, rfl, hno, hB2, hI2, C2⟩ := hrel
    have HJ := Lib.hid hj
    have HNO := Lib.hid hno
    have HB2 := Lib.hid hB2
    have hjl : j ≤ (lessOf y).length := by omega
    have CC : Chg (fun k => S k ∨ k = b) w wr := (C1.mono (S' := fun k => S k ∨ k = b) fun _ _ h => h.elim).trans C2 fun _ _ h => h
    have hzr := C2.size
    clear hj hno hB2
    by_cases hlt : j < (lessOf y).length
    · obtain ⟨x, hx⟩ : ∃ x, (lessOf y)[j]? = some x := ⟨(lessOf y)[j], by simp [hlt]⟩
      have hxb := lessOf_bd HYB.out (List.mem_of_getElem? hx)
      obtain ⟨g1, o1, rfl, hxc⟩ : ∃ g off, p1 = some ⟨g, off, none⟩ ∧ wr.cell? ⟨g, off + j, none⟩ = some (.int .u8 x) := by
        obtain ⟨-, p, c, e, -, h2⟩ := HS1.out
        cases e
        obtain ⟨g, off, rfl, h3, h4, h5⟩ := h2 (by omega)
        exact ⟨g, off, rfl, C2.cell (h5 j _ (by simp [hx])) (fun e => e.elim (fun e => by have := h.old _ e; simp only at this; omega) (fun e => by simp only at e; omega))⟩
      have HX := Lib.hid hx
      have HXB := Lib.hid hxb
      have l0 : (0 : Int) ≤ j := by omega
      have l1 : (j : Int) < (lessOf y).length := by omega
      clear hx hxb
      go_wp2_with fail
      refine (b_with Sl' wr _ zs i x (HSV1.out.chg C2 fun k hk => fun h' => h'.elim (hsb k hk).2 (hsb k hk).1) (by omega) hi ⟨HXB.out.1, HXB.out.2.1⟩).mono ?_
      rintro e w3 ⟨q3, rfl, O3, C3⟩
      have hz3 := C3.size
      have hI3 := h.keep _ wr w3 hI2 (by omega) (C3.mono fun _ _ h => h.elim)
      have hO3 : Sl w3 (fun k => wr.heap.size ≤ k) 1 q3 (zs.set i x).length (u8s (zs.set i x)) := by rw [List.length_set]; exact O3.sl
      clear hxc
      go_wp2_with fail
      refine (b_ask h w3 b (n + j) (m + j) q3 (zs.set i x) (C3.blk0 HB2.out) hb hI3 (by omega) (by rw [List.length_set]; omega) (by omega) (by omega) hO3 (fun k hk e => by omega)).mono ?_
      rintro e w4 ⟨rfl, B4, I4, C4⟩
      have O4 := O3.chg C4 (fun k hk e => e.elim (fun e => by have := h.old _ e; omega) (fun e => by omega))
      have HB4 := Lib.hid B4
      have HI4 := Lib.hid I4
      have HO4 := Lib.hid O4
      have CD : Chg (fun k => S k ∨ k = b) wr w4 := (C3.mono (S' := fun k => S k ∨ k = b) fun _ _ h => h.elim).trans C4 fun _ _ h => h
      have HCD := Lib.hid CD
      clear B4 I4 O4 O3 hO3 hI3 C3 C4 hI2 CD
      cases hp : p (zs.set i x) with
      | true =>
        have HP := Lib.hid hp
        clear hp
        go_wp2_with fail
        go_ret2
        exact ⟨_, rfl, _, true, j + 1, rfl, .inl ⟨rfl, x, List.mem_of_getElem? HX.out, HP.out, HO4.out.mono fun k hk => by omega⟩, by omega, HB4.out, HI4.out, CC.trans HCD.out fun _ _ h => h⟩
      | false =>
        have HP := Lib.hid hp
        clear hp
        go_wp2_with fail
        go_roundg ((lessOf y).length - (j + 1))
        case measure => have := HJ.out; omega
        case rel =>
          refine ⟨j + 1, by omega, by go_num, fun k x' hk hx' => ?_, HB4.out, HI4.out, C2.trans HCD.out fun _ _ h => h⟩
          rcases Nat.lt_or_ge k j with hk2 | hk2
          · exact HNO.out k x' hk2 hx'
          · obtain rfl : k = j := by omega
            rw [HX.out] at hx'
            cases hx'
            exact HP.out
    · obtain rfl : j = (lessOf y).length := by have := HJ.out; omega
      go_wp2
      go_ret2
      exact ⟨_, rfl, _, false, (lessOf y).length, rfl, .inr ⟨rfl, rfl, fun x hx => by
        obtain ⟨k, hk⟩ := List.mem_iff_getElem?.1 hx
        exact HNO.out k x (List.getElem?_eq_some_iff.1 hk).1 hk⟩, hll, HB2.out, hI2, CC⟩
end Go.Proofs.Ytokigldggkkbcaa
