/- The reference's Same, quiet: it changes nothing but the tape's place. -/
import Derived.Test.YtokigldggkkbcaaRecvPE
set_option linter.unusedVariables false
namespace Go.Proofs.Ytokigldggkkbcaa
open Go.RowKit Go.RR

set_option maxHeartbeats 1000000 in
set_option maxRecDepth 100000 in
theorem sameBBq (S1 S2 S3 : Nat → Prop) (v1 v2 : Value) (vs : List Value) (xs ys : List ByteArray) (w : World) (h1 : Sl w S1 1 v1 xs.length vs) (hB : Bodies w S2 vs xs) (h2 : Sl w S3 1 v2 ys.length (ys.map Value.string)) (hl : xs.length ≤ 1000000) (hl2 : ys.length ≤ 1000000) (r : Bool) (hr : r = decide (xs = ys)) :
    Calls Try.prog 21 #[v1, v2] w (RetW (.bool r) fun w' => ∃ n, w.drewN n = w') := by
  obtain ⟨p1, c1, rfl, hn1, hc1⟩ := h1.shape
  obtain ⟨p2, c2, rfl, hn2, hc2⟩ := h2.shape
  clear h1 h2
  by_cases hne : xs.length = ys.length
  · have hb : ((xs.length : Int) != (ys.length : Int)) = false := by simp; omega
    have HN := Lib.hid hne
    have HR := Lib.hid hr
    have HB := Lib.hid hB
    clear hne hr hB
    go_enter Try.func21, Try.ntmps21
    go_wp2
    go_loopg [13] xs.length (fun m i wr => ∃ k : Nat, k + m = xs.length ∧ i = .int .i64 k ∧ xs.take k = ys.take k ∧ ∃ n, w.drewN n = wr)
    case atStart => exact ⟨0, by omega, rfl, rfl, 0, rfl⟩
    case round =>
      obtain ⟨k, hk, rfl, htk, nn, hnn⟩ := hrel
      have C1 := Chg.of_ex' ⟨nn, hnn⟩
      have HNN := Lib.hid hnn
      clear hnn
      have HT := Lib.hid htk
      have HK := Lib.hid hk
      have hkl : k ≤ xs.length := by omega
      clear htk hk
      by_cases hlt : k < xs.length
      · obtain ⟨g1, o1, rfl, -, -, q1⟩ := hc1 (by omega)
        obtain ⟨g2, o2, rfl, -, -, q2⟩ := hc2 (by have := HN.out; omega)
        have hlt2 : k < ys.length := by have := HN.out; omega
        have hx : xs[k]? = some xs[k] := List.getElem?_eq_getElem hlt
        have hy : ys[k]? = some ys[k] := List.getElem?_eq_getElem hlt2
        obtain ⟨u, hu, hsl⟩ := HB.out.get k _ hx
        have e1 := C1.cell (q1 k _ hu) id
        have e2 := C1.cell (q2 k _ (by rw [List.getElem?_map, hy]; rfl)) id
        have b1 : (k : Int) < xs.length := by omega
        have b2 : (k : Int) < ys.length := by omega
        have b0 : (0 : Int) ≤ k := by omega
        have hcv : ∀ n, (convert 22 9 u).run Try.prog (wr.drewN n) = .ok (.string xs[k]) (wr.drewN n) := fun n => run_str (P := Try.prog) 22 9 5 Try.underlying22 Try.underlying5 Try.underlying9 (hsl.chg0 (C1.drewN n))
        generalize hxx : xs[k] = x at *
        generalize hyy : ys[k] = y at *
        obtain ⟨pu, nu, cu, rfl⟩ : ∃ p n c, u = .slice p n c := by obtain ⟨_, p, c, h, _⟩ := hsl; exact ⟨p, _, c, h⟩
        have HX := Lib.hid hx
        have HY := Lib.hid hy
        clear hc1 hc2 q1 q2 hx hy hxx hyy hu hsl
        by_cases hxy : x = y
        · subst hxy
          go_wp2_with fail
          go_quiet (fail)
          go_wp2_with fail
          go_roundg (xs.length - (k + 1))
          case measure => have := HK.out; omega
          case rel => exact ⟨k + 1, by omega, by go_num, by rw [List.take_add_one, List.take_add_one, HT.out, HX.out, HY.out], nn + _, by rw [← World.drewN_drewN, HNN.out]⟩
        · have hb1 := str_ne hxy
          have hb2 : (!x.toList == y.toList) = true := by rw [hb1]; rfl
          go_wp2_with fail
          go_quiet (fail)
          go_wp2
          go_ret
          refine ⟨?_, nn + _, by rw [← World.drewN_drewN, HNN.out]⟩
          rw [HR.out]
          have : xs ≠ ys := fun e => hxy (by have := HX.out; rw [e, HY.out] at this; exact (Option.some.inj this).symm)
          simp [this]
      · obtain rfl : k = xs.length := by omega
        clear hc1 hc2
        go_wp2
        go_ret
        refine ⟨?_, nn, HNN.out⟩
        have := HT.out
        rw [List.take_length, HN.out, List.take_length] at this
        rw [HR.out]; simp [this]
  · have hb : ((xs.length : Int) != (ys.length : Int)) = true := by simp; omega
    go_enter Try.func21, Try.ntmps21
    go_wp2
    go_ret
    refine ⟨?_, 0, rfl⟩
    rw [hr]
    have : xs ≠ ys := fun e => hne (by rw [e])
    simp [this]

end Go.Proofs.Ytokigldggkkbcaa
