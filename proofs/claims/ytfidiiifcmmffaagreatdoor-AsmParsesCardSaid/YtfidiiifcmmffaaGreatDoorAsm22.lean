/- Instructions compared; programs compared; parameters; what is answered ahead of everything else. No condition. -/
import Derived.Test.YtfidiiifcmmffaaGreatDoorAsm21
import Derived.Test.YtfidiiifcmmffaaGreatDoorIn
set_option linter.unusedVariables false
set_option linter.unusedSimpArgs false
namespace Go.Proofs.YtfidiiifcmmffaaGreatDoor
open Go.RowKit Go.RR
theorem part_0 (a b c d e : Int) (w : World) : (part 22 #[.int .i64 a, .int .i64 b, .int .i64 c, .int .i64 d, .int .i64 e] 0).run Tryz.prog w = .ok (.int .i64 a) w := by kernel_rfl
theorem part_1 (a b c d e : Int) (w : World) : (part 3 #[.int .i64 a, .int .i64 b, .int .i64 c, .int .i64 d, .int .i64 e] 1).run Tryz.prog w = .ok (.int .i64 b) w := by kernel_rfl
theorem part_2 (a b c d e : Int) (w : World) : (part 3 #[.int .i64 a, .int .i64 b, .int .i64 c, .int .i64 d, .int .i64 e] 2).run Tryz.prog w = .ok (.int .i64 c) w := by kernel_rfl
theorem part_3 (a b c d e : Int) (w : World) : (part 3 #[.int .i64 a, .int .i64 b, .int .i64 c, .int .i64 d, .int .i64 e] 3).run Tryz.prog w = .ok (.int .i64 d) w := by kernel_rfl
theorem part_4 (a b c d e : Int) (w : World) : (part 3 #[.int .i64 a, .int .i64 b, .int .i64 c, .int .i64 d, .int .i64 e] 4).run Tryz.prog w = .ok (.int .i64 e) w := by kernel_rfl
theorem eqi (t : TypeId) (h : Tryz.prog.underlying t = some (.int .i64)) (a b : Int) (w : World) : (Op.equalIn 9999 t (.int .i64 a) (.int .i64 b)).run Tryz.prog w = .ok (a == b) w := run_equalIn_int w 9998 t .i64 .i64 a b h
theorem ins_eq (i j : In) (w : World) : (Op.equalIn 10000 24 (.agg #[.int .i64 i.op, .int .i64 i.rd, .int .i64 i.rs, .int .i64 i.rt, .int .i64 i.im]) (.agg #[.int .i64 j.op, .int .i64 j.rd, .int .i64 j.rs, .int .i64 j.rt, .int .i64 j.im])).run Tryz.prog w = .ok (decide (i = j)) w := by
  rw [run_equalIn_agg w 9999 24 _ _ (by kernel_rfl) (by kernel_rfl)]
  obtain ⟨a, b, c, d, e⟩ := i
  obtain ⟨a', b', c', d', e'⟩ := j
  simp only [In.mk.injEq]
  by_cases h0 : a = a' <;> by_cases h1 : b = b' <;> by_cases h2 : c = c' <;> by_cases h3 : d = d' <;> by_cases h4 : e = e' <;>
    simp [Program.fieldsOf, Tryz.underlying24, Op.eqFields, part_0, part_1, part_2, part_3, part_4, eqi 22 Tryz.underlying22, eqi 3 Tryz.underlying3, h0, h1, h2, h3, h4]
theorem eq_guard : Tryz.prog.eqGuardType Tryz.prog.depth 24 = false := by kernel_rfl

structure InsAt (w : World) (p : Option Addr) (cap : Nat) (l : List In) : Prop where
  le : l.length ≤ 100000
  cap : l.length ≤ cap
  spot : 0 < l.length → ∃ g of, p = some ⟨g, of, none⟩ ∧ g < w.heap.size ∧ ∀ j u, (iC l)[j]? = some u → w.cell? ⟨g, of + j, none⟩ = some u
theorem InsAt.of {w : World} {S : Nat → Prop} {v : Value} {l : List In} (h : Sl w S 5 v l.length (iC l)) (hl : l.length ≤ 100000) : ∃ p cap, v = .slice p l.length cap ∧ InsAt w p cap l := by
  obtain ⟨-, p, cap, rfl, hc, hs⟩ := h
  refine ⟨p, cap, rfl, hl, hc, fun h0 => ?_⟩
  obtain ⟨g, of, hp, -, hg, hcell⟩ := hs h0
  exact ⟨g, of, hp, hg, hcell⟩
theorem InsAt.chg0 {w w' : World} {p : Option Addr} {cap : Nat} {l : List In} (h : InsAt w p cap l) (c : Chg NoB w w') : InsAt w' p cap l :=
  ⟨h.le, h.cap, fun h0 => by
    obtain ⟨g, of, hp, hg, hcell⟩ := h.spot h0
    exact ⟨g, of, hp, Nat.lt_of_lt_of_le hg c.size, fun j u hu => c.cell (hcell j u hu) id⟩⟩
/-- Where the instruction at place n stands. -/
theorem InsAt.at {w : World} {p : Option Addr} {cap : Nat} {l : List In} (h : InsAt w p cap l) {n : Nat} {i : In} (hn : l[n]? = some i) : ∃ g of, p = some ⟨g, of, none⟩ ∧ g < w.heap.size ∧
    w.cell? ⟨g, of + n * 5, none⟩ = some (.int .i64 i.op) ∧ w.cell? ⟨g, of + n * 5 + 1, none⟩ = some (.int .i64 i.rd) ∧ w.cell? ⟨g, of + n * 5 + 2, none⟩ = some (.int .i64 i.rs) ∧ w.cell? ⟨g, of + n * 5 + 3, none⟩ = some (.int .i64 i.rt) ∧ w.cell? ⟨g, of + n * 5 + 4, none⟩ = some (.int .i64 i.im) := by
  have hlt := (List.getElem?_eq_some_iff.1 hn).1
  obtain ⟨g, of, hp, hg, hcell⟩ := h.spot (by omega)
  refine ⟨g, of, hp, hg, ?_, ?_, ?_, ?_, ?_⟩
  · have := hcell _ _ ((iC_get hn (q := 0) (by omega)).trans rfl); exact this
  · rw [Nat.add_assoc]; exact hcell _ _ ((iC_get hn (q := 1) (by omega)).trans rfl)
  · rw [Nat.add_assoc]; exact hcell _ _ ((iC_get hn (q := 2) (by omega)).trans rfl)
  · rw [Nat.add_assoc]; exact hcell _ _ ((iC_get hn (q := 3) (by omega)).trans rfl)
  · rw [Nat.add_assoc]; exact hcell _ _ ((iC_get hn (q := 4) (by omega)).trans rfl)
set_option maxHeartbeats 2000000 in
set_option maxRecDepth 100000 in
theorem same_any (S S' : Nat → Prop) (v v' : Value) (l m : List In) (w : World) (hs : Sl w S 5 v l.length (iC l)) (hm : Sl w S' 5 v' m.length (iC m)) (hl : l.length ≤ 100000) (hk : m.length ≤ 100000) : Calls Tryz.prog 18 #[v, v'] w (RetW (.bool (decide (l = m))) fun w' => Chg NoB w w') := by
  obtain ⟨p, cap, rfl, hI⟩ := InsAt.of hs hl
  obtain ⟨q, caq, rfl, hJ⟩ := InsAt.of hm hk
  have HI := Lib.hid hI
  have HJ := Lib.hid hJ
  clear hs hI hm hJ
  by_cases he : l.length = m.length
  · have t0 : (l.length != m.length) = false := by simp [he]
    have t1 : ((l.length : Int) != (m.length : Int)) = false := by simp [he]
    have HE := Lib.hid he
    clear he
    go_enter Tryz.func18, Tryz.ntmps18
    go_wp2_with fail
    go_loopg [13] l.length (fun g ix wr => ∃ n : Nat, n + g = l.length ∧ ix = .int .i64 n ∧ l.take n = m.take n ∧ Chg NoB w wr)
    case atStart => exact ⟨0, by omega, rfl, rfl, Chg.refl _ _⟩
    case round =>
      obtain ⟨n, hn, rfl, hp, hC⟩ := hrel
      have HP := Lib.hid hp
      have HN := Lib.hid hn
      have hnl : n ≤ l.length := by omega
      clear hp hn
      by_cases hlt : n < l.length
      · obtain ⟨i, hi⟩ : ∃ i, l[n]? = some i := ⟨l[n], by simp [hlt]⟩
        have hlt2 : n < m.length := by have := HE.out; omega
        obtain ⟨j, hj⟩ : ∃ j, m[n]? = some j := ⟨m[n], by simp [hlt2]⟩
        obtain ⟨g, of, rfl, hg, x0, x1, x2, x3, x4⟩ := (HI.out.chg0 hC).at hi
        obtain ⟨g', of', rfl, hg', y0, y1, y2, y3, y4⟩ := (HJ.out.chg0 hC).at hj
        have hcap := HI.out.cap
        have hcaq := HJ.out.cap
        have n0 : (0 : Int) ≤ n := by omega
        have HL := Lib.hid hi
        have HM := Lib.hid hj
        have HC := Lib.hid hC
        clear hi hj hC
        have k1 := ins_eq i j
        have k2 := eq_guard
        obtain ⟨b, hb⟩ : ∃ b, decide (i = j) = b := ⟨_, rfl⟩
        rw [hb] at k1
        have HB := Lib.hid hb
        clear hb
        cases b
        · go_wp2_with fail
          go_quiet (fail)
          go_wp2_with fail
          go_ret
          refine ⟨ret_bool ?_, HC.out.drewN _⟩
          symm
          rw [decide_eq_false_iff_not]
          intro e
          have := HL.out
          rw [e, HM.out] at this
          cases this
          exact absurd HB.out (by simp)
        · go_wp2_with fail
          go_quiet (fail)
          go_wp2_with fail
          go_roundg (l.length - (n + 1))
          case measure => have := HN.out; omega
          case rel => exact ⟨n + 1, by have := HN.out; omega, by go_num, by rw [List.take_add_one, List.take_add_one, HP.out, HL.out, HM.out, of_decide_eq_true HB.out], HC.out.drewN _⟩
      · obtain rfl : n = l.length := by omega
        go_wp2_with fail
        go_ret
        exact ⟨ret_bool (by have h := HP.out; rw [List.take_length, HE.out, List.take_length] at h; simp [h]), hC⟩
  · have t0 : (l.length != m.length) = true := by simp [he]
    have t1 : ((l.length : Int) != (m.length : Int)) = true := by simp; omega
    have HE := Lib.hid he
    clear he
    go_enter Tryz.func18, Tryz.ntmps18
    go_wp2_with fail
    go_ret
    exact ⟨ret_bool (by symm; simp; intro e; exact HE.out (by rw [e])), Chg.refl _ _⟩

def insIn (l : List In) : Prop := ∀ i ∈ l, (-9223372036854775808 ≤ i.op ∧ i.op ≤ 9223372036854775807) ∧ (-9223372036854775808 ≤ i.rd ∧ i.rd ≤ 9223372036854775807) ∧ (-9223372036854775808 ≤ i.rs ∧ i.rs ≤ 9223372036854775807) ∧ (-9223372036854775808 ≤ i.rt ∧ i.rt ≤ 9223372036854775807) ∧ (-9223372036854775808 ≤ i.im ∧ i.im ≤ 9223372036854775807)
set_option maxRecDepth 100000 in
theorem insts_of {H : Type} {enc : TypeId × Value → H} {w : World} {a : Option Addr} {len cap : Nat} (h : Rd enc Tryz.prog w 36 [.slice a len cap]) :
    ∃ l : List In, l.length = len ∧ len ≤ 9223372036854775807 ∧ Sl w (fun k => k < w.heap.size) 5 (.slice a len cap) l.length (iC l) ∧ insIn l := by
  obtain ⟨p, n, c, e1, hn, ess, hl, hall, hs⟩ := h.slice 5 Tryz.underlying36 (by kernel_rfl) (by decide)
  cases e1
  obtain ⟨ps, h1, h2⟩ := list_of (fun i : In => (ic i).toList) (fun i : In => (-9223372036854775808 ≤ i.op ∧ i.op ≤ 9223372036854775807) ∧ (-9223372036854775808 ≤ i.rd ∧ i.rd ≤ 9223372036854775807) ∧ (-9223372036854775808 ≤ i.rs ∧ i.rs ≤ 9223372036854775807) ∧ (-9223372036854775808 ≤ i.rt ∧ i.rt ≤ 9223372036854775807) ∧ (-9223372036854775808 ≤ i.im ∧ i.im ≤ 9223372036854775807)) ess fun c hc => by
    obtain ⟨hr, hc2⟩ := hall c hc
    obtain ⟨-, hf⟩ := hr.struct Tryz.underlying24
    have f0 := hf 0 _ rfl
    have f1 := hf 1 _ rfl
    have f2 := hf 2 _ rfl
    have f3 := hf 3 _ rfl
    have f4 := hf 4 _ rfl
    match c, hc2, f0, f1, f2, f3, f4 with
    | [x, y, z, u, v], _, f0, f1, f2, f3, f4 =>
      obtain ⟨k0, e0, b0⟩ := Rd.int (k := .i64) (cs := [x]) Tryz.underlying22 f0
      cases e0
      obtain ⟨k1, e1, b1⟩ := Rd.int (k := .i64) (cs := [y]) Tryz.underlying3 f1
      cases e1
      obtain ⟨k2, e2, b2⟩ := Rd.int (k := .i64) (cs := [z]) Tryz.underlying3 f2
      cases e2
      obtain ⟨k3, e3, b3⟩ := Rd.int (k := .i64) (cs := [u]) Tryz.underlying3 f3
      cases e3
      obtain ⟨k4, e4, b4⟩ := Rd.int (k := .i64) (cs := [v]) Tryz.underlying3 f4
      cases e4
      exact ⟨⟨k0, k1, k2, k3, k4⟩, rfl, bounds_i64 b0, bounds_i64 b1, bounds_i64 b2, bounds_i64 b3, bounds_i64 b4⟩
  have hlen : ps.length = len := by rw [← hl, h1]; simp
  refine ⟨ps, hlen, hn, ?_, h2⟩
  rw [hlen]
  rw [h1] at hs
  unfold iC
  rw [List.flatMap_def]
  exact hs
end Go.Proofs.YtfidiiifcmmffaaGreatDoor
