/- The reference of layer 38: Same, Is, Parts, Without. -/
import Derived.Test.YtokigldggkkbcaaShrinkSteps
set_option linter.unusedVariables false
namespace Go.Proofs.Ytokigldggkkbcaa
open Go.RowKit Go.RR

def ints (zs : List Int) : List Value := zs.map (Value.int .i64)
theorem ints_len (zs : List Int) : (ints zs).length = zs.length := by simp [ints]
theorem ints_at {zs : List Int} {i : Nat} {x : Int} (h : zs[i]? = some x) : (ints zs)[i]? = some (.int .i64 x) := by simp [ints, h]
theorem ints_one (zs : List Int) : ∀ u ∈ ints zs, u.oneCell' = true := by simp [ints, Value.oneCell']

set_option maxHeartbeats 1000000 in
set_option maxRecDepth 100000 in
theorem sh_same (S1 S2 : Nat → Prop) (v1 v2 : Value) (n1 n2 : Nat) (xs ys : List Int) (w : World) (h1 : Sl w S1 1 v1 n1 (ints xs)) (h2 : Sl w S2 1 v2 n2 (ints ys)) (hl : xs.length ≤ 1000000) (hl2 : ys.length ≤ 1000000) (r : Bool) (hr : r = decide (xs = ys)) :
    Calls Try.prog 41 #[v1, v2] w (RetW (.bool r) fun w' => ∃ n, w.drewN n = w') := by
  obtain rfl : n1 = xs.length := by have := h1.1; rw [ints_len] at this; omega
  obtain rfl : n2 = ys.length := by have := h2.1; rw [ints_len] at this; omega
  obtain ⟨p1, c1, rfl, hn1, hc1⟩ := h1.shape
  obtain ⟨p2, c2, rfl, hn2, hc2⟩ := h2.shape
  clear h1 h2
  by_cases hne : xs.length = ys.length
  · have hb : ((xs.length : Int) != (ys.length : Int)) = false := by simp; omega
    have HN := Lib.hid hne
    have HR := Lib.hid hr
    clear hne hr
    go_enter Try.func41, Try.ntmps41
    go_wp2
    go_loopg [13] xs.length (fun m i wr => ∃ k : Nat, k + m = xs.length ∧ i = .int .i64 k ∧ xs.take k = ys.take k ∧ ∃ n, w.drewN n = wr)
    case atStart => exact ⟨0, by omega, rfl, rfl, 0, rfl⟩
    case round =>
      obtain ⟨k, hk, rfl, htk, nn, hnn⟩ := hrel
      have C1 := Chg.of_ex' ⟨nn, hnn⟩
      have HNN := Lib.hid hnn
      clear hnn
      have HT := Lib.hid htk
      have HK := Lib.hid hk
      have hkl : k ≤ xs.length := by omega
      clear htk hk
      by_cases hlt : k < xs.length
      · obtain ⟨g1, o1, rfl, -, -, q1⟩ := hc1 (by omega)
        obtain ⟨g2, o2, rfl, -, -, q2⟩ := hc2 (by have := HN.out; omega)
        have hlt2 : k < ys.length := by have := HN.out; omega
        have hx : xs[k]? = some xs[k] := List.getElem?_eq_getElem hlt
        have hy : ys[k]? = some ys[k] := List.getElem?_eq_getElem hlt2
        have e1 := C1.cell (q1 k _ (ints_at hx)) id
        have e2 := C1.cell (q2 k _ (ints_at hy)) id
        have b1 : (k : Int) < xs.length := by omega
        have b2 : (k : Int) < ys.length := by omega
        have b0 : (0 : Int) ≤ k := by omega
        generalize hxx : xs[k] = x at *
        generalize hyy : ys[k] = y at *
        have HX := Lib.hid hx
        have HY := Lib.hid hy
        clear hc1 hc2 q1 q2 hx hy hxx hyy
        by_cases hxy : x = y
        · subst hxy
          have hb1 : (x != x) = false := by simp
          go_wp2_with fail
          go_quiet (fail)
          go_wp2_with fail
          go_roundg (xs.length - (k + 1))
          case measure => have := HK.out; omega
          case rel => exact ⟨k + 1, by omega, by go_num, by rw [List.take_add_one, List.take_add_one, HT.out, HX.out, HY.out], nn + _, by rw [← World.drewN_drewN, HNN.out]⟩
        · have hb1 : (x != y) = true := by simp [hxy]
          go_wp2_with fail
          go_quiet (fail)
          go_wp2
          go_ret
          refine ⟨?_, nn + _, by rw [← World.drewN_drewN, HNN.out]⟩
          rw [HR.out]
          have : xs ≠ ys := fun e => hxy (by have := HX.out; rw [e, HY.out] at this; exact (Option.some.inj this).symm)
          simp [this]
      · obtain rfl : k = xs.length := by omega
        clear hc1 hc2
        go_wp2
        go_ret
        refine ⟨?_, nn, HNN.out⟩
        have := HT.out
        rw [List.take_length, HN.out, List.take_length] at this
        rw [HR.out]; simp [this]
  · have hb : ((xs.length : Int) != (ys.length : Int)) = true := by simp; omega
    go_enter Try.func41, Try.ntmps41
    go_wp2
    go_ret
    refine ⟨?_, 0, rfl⟩
    rw [hr]
    have : xs ≠ ys := fun e => hne (by rw [e])
    simp [this]

/-- All of must are among zs. -/
def badOf (must zs : List Int) : Bool := must.all fun n => zs.any fun x => x == n

set_option maxHeartbeats 1000000 in
set_option maxRecDepth 100000 in
theorem sh_is (S1 S2 : Nat → Prop) (mv v : Value) (must zs : List Int) (w : World) (h1 : Sl w S1 1 mv must.length (ints must)) (h2 : Sl w S2 1 v zs.length (ints zs)) (hl : must.length ≤ 1000000) (hl2 : zs.length ≤ 1000000) (r : Bool) (hr : badOf must zs = r) :
    Calls Try.prog 45 #[.agg #[mv], v] w (RetW (.bool r) fun w' => Chg NoB w w') := by
  obtain ⟨p1, c1, rfl, hn1, hc1⟩ := h1.shape
  obtain ⟨p2, c2, rfl, hn2, hc2⟩ := h2.shape
  have HR := Lib.hid hr
  clear h1 h2 hr
  have A0 := (Chg.refl NoB w).alloc (.cells #[.slice p1 must.length c1] 73)
  go_enter Try.func45, Try.ntmps45
  go_wp2
  generalize hw1 : w.alloc (.cells #[.slice p1 must.length c1] 73) = w1 at *
  clear hw1
  go_loopg [13] must.length (fun m i wr => ∃ k : Nat, k + m = must.length ∧ i = .int .i64 k ∧ badOf (must.take k) zs = true ∧ w1 = wr)
  case atStart => exact ⟨0, by omega, rfl, rfl, rfl⟩
  case round =>
    obtain ⟨k, hk, rfl, hb, rfl⟩ := hrel
    have HK := Lib.hid hk
    have HB := Lib.hid hb
    have hkl : k ≤ must.length := by omega
    clear hk hb
    by_cases hlt : k < must.length
    · obtain ⟨g1, o1, rfl, -, -, q1⟩ := hc1 (by omega)
      have hx : must[k]? = some must[k] := List.getElem?_eq_getElem hlt
      have e1 := A0.cell (q1 k _ (ints_at hx)) id
      have b1 : (k : Int) < must.length := by omega
      have b0 : (0 : Int) ≤ k := by omega
      generalize hxx : must[k] = x at *
      have HX := Lib.hid hx
      have htk : badOf (must.take (k + 1)) zs = zs.any fun y => y == x := by
        rw [List.take_add_one, hx]
        have := HB.out
        unfold badOf at this ⊢
        rw [List.all_append, this]
        simp
      have HTK := Lib.hid htk
      have hrest : zs.any (fun y => y == x) = false → r = false := by
        intro hf
        rw [← HR.out]
        unfold badOf
        rw [List.all_eq_false]
        exact ⟨x, List.mem_of_getElem? hx, by simp [hf]⟩
      have HREST := Lib.hid hrest
      clear hc1 q1 hx hxx htk hrest
      go_wp2_with fail
      go_loopg [7, 19] zs.length (fun m b j wr => ∃ i : Nat, i + m = zs.length ∧ j = .int .i64 i ∧ b = .bool ((zs.take i).any fun y => y == x) ∧ w1 = wr)
      case atStart => exact ⟨0, by omega, rfl, rfl, rfl⟩
      case round =>
        obtain ⟨i, hi, rfl, rfl, rfl⟩ := hrel
        have HI := Lib.hid hi
        have hil : i ≤ zs.length := by omega
        clear hi
        by_cases hlt2 : i < zs.length
        · obtain ⟨g2, o2, rfl, -, -, q2⟩ := hc2 (by omega)
          have hy : zs[i]? = some zs[i] := List.getElem?_eq_getElem hlt2
          have e2 := A0.cell (q2 i _ (ints_at hy)) id
          have b2 : (i : Int) < zs.length := by omega
          have b3 : (0 : Int) ≤ i := by omega
          generalize hyy : zs[i] = y at *
          have hany : (zs.take (i + 1)).any (fun y => y == x) = ((zs.take i).any (fun y => y == x) || (y == x)) := by rw [List.take_add_one, hy]; simp
          have HA := Lib.hid hany
          clear hc2 q2 hy hyy hany
          cases hb : (zs.take i).any fun y => y == x with
          | true =>
            have HBB := Lib.hid hb
            clear hb
            go_wp2_with fail
            go_roundg (zs.length - (i + 1))
            case measure => have := HI.out; omega
            case rel => exact ⟨i + 1, by omega, by go_num, by rw [HA.out, HBB.out]; rfl, rfl⟩
          | false =>
            have HBB := Lib.hid hb
            clear hb
            by_cases hyx : y = x
            · have hb1 : (y == x) = true := by simp [hyx]
              have HY := Lib.hid hb1
              go_wp2_with fail
              go_roundg (zs.length - (i + 1))
              case measure => have := HI.out; omega
              case rel => exact ⟨i + 1, by omega, by go_num, by rw [HA.out, HY.out]; simp, rfl⟩
            · have hb1 : (y == x) = false := by simp [hyx]
              have HY := Lib.hid hb1
              go_wp2_with fail
              go_roundg (zs.length - (i + 1))
              case measure => have := HI.out; omega
              case rel => exact ⟨i + 1, by omega, by go_num, by rw [HA.out, HY.out, HBB.out]; rfl, rfl⟩
        · obtain rfl : i = zs.length := by omega
          rw [List.take_length]
          cases hb : zs.any fun y => y == x with
          | true =>
            have hb2 := HTK.out
            rw [hb] at hb2
            have HB2 := Lib.hid hb2
            clear hb hb2
            go_wp2_with fail
            go_roundg (must.length - (k + 1))
            case measure => have := HK.out; omega
            case rel => exact ⟨k + 1, by omega, by go_num, HB2.out, rfl⟩
          | false =>
            have hb2 := HREST.out hb
            have HB2 := Lib.hid hb2
            clear hb hb2
            go_wp2
            go_ret
            exact ⟨by rw [HB2.out]; rfl, A0⟩
    · obtain rfl : k = must.length := by omega
      have hb := HB.out
      rw [List.take_length, HR.out] at hb
      have HB2 := Lib.hid hb
      clear hb
      go_wp2
      go_ret
      exact ⟨by rw [HB2.out]; rfl, A0⟩
end Go.Proofs.Ytokigldggkkbcaa
