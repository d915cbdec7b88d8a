/- Two lists of acts compared, by the reference. No condition. -/
import Derived.Test.YtfidiiifcmmffaaDoorTrace10
import Derived.Test.YtfidiiifcmmffaaDoorIn
set_option linter.unusedVariables false
set_option linter.unusedSimpArgs false
namespace Go.Proofs.YtfidiiifcmmffaaDoor
open Go.RowKit Go.RR

theorem alist_at {l : List Ac} {i : Nat} {a : Ac} (h : l[i]? = some a) : (alist l)[i * 3]? = some (.int .i64 a.1) ∧ (alist l)[i * 3 + 1]? = some (.int .i64 a.2.1) ∧ (alist l)[i * 3 + 2]? = some (.int .i64 a.2.2) := by
  have hs : ∀ c ∈ l.map acells, c.length = 3 := fun c hc => by obtain ⟨a, _, rfl⟩ := List.mem_map.1 hc; rfl
  have hc : (l.map acells)[i]? = some (acells a) := by rw [List.getElem?_map, h]; rfl
  have h0 := flat_at 3 _ hs i 0 _ (.int .i64 a.1) hc rfl
  have h1 := flat_at 3 _ hs i 1 _ (.int .i64 a.2.1) hc rfl
  have h2 := flat_at 3 _ hs i 2 _ (.int .i64 a.2.2) hc rfl
  exact ⟨h0, h1, h2⟩
/-- A slice that reads as these acts. -/
def AAt (w : World) (v : Value) (l : List Ac) : Prop := ∃ S, Sl w S 3 v l.length (alist l)
theorem AAt.chg0 {w w' : World} {v : Value} {l : List Ac} (h : AAt w v l) (c : Chg NoB w w') : AAt w' v l := by obtain ⟨S, h⟩ := h; exact ⟨S, h.chg0 c⟩
theorem AAt.form {w : World} {v : Value} {l : List Ac} (h : AAt w v l) : ∃ p c, v = .slice p l.length c := by obtain ⟨S, -, p, c, e, -⟩ := h; exact ⟨p, c, e⟩
theorem AAt.at {w : World} {p : Option Addr} {n c : Nat} {l : List Ac} (h : AAt w (.slice p n c) l) {i : Nat} {a : Ac} (hi : l[i]? = some a) : n ≤ c ∧ ∃ g of, p = some ⟨g, of, none⟩ ∧ g < w.heap.size ∧
    w.cell? ⟨g, of + i * 3, none⟩ = some (.int .i64 a.1) ∧ w.cell? ⟨g, of + i * 3 + 1, none⟩ = some (.int .i64 a.2.1) ∧ w.cell? ⟨g, of + i * 3 + 2, none⟩ = some (.int .i64 a.2.2) := by
  obtain ⟨S, -, p', c', e, hc, h⟩ := h
  cases e
  obtain ⟨g, of, hp, -, hg, hx⟩ := h (by have := (List.getElem?_eq_some_iff.1 hi).1; omega)
  obtain ⟨h0, h1, h2⟩ := alist_at hi
  exact ⟨hc, g, of, hp, hg, hx _ _ h0, by rw [Nat.add_assoc]; exact hx _ _ h1, by rw [Nat.add_assoc]; exact hx _ _ h2⟩

theorem part_0 (a b c : Int) (w : World) : (part 3 #[.int .i64 a, .int .i64 b, .int .i64 c] 0).run Tryd.prog w = .ok (.int .i64 a) w := by kernel_rfl
theorem part_1 (a b c : Int) (w : World) : (part 3 #[.int .i64 a, .int .i64 b, .int .i64 c] 1).run Tryd.prog w = .ok (.int .i64 b) w := by kernel_rfl
theorem part_2 (a b c : Int) (w : World) : (part 3 #[.int .i64 a, .int .i64 b, .int .i64 c] 2).run Tryd.prog w = .ok (.int .i64 c) w := by kernel_rfl
theorem eqi (t : TypeId) (h : Tryd.prog.underlying t = some (.int .i64)) (a b : Int) (w : World) : (Op.equalIn 9999 t (.int .i64 a) (.int .i64 b)).run Tryd.prog w = .ok (a == b) w := run_equalIn_int w 9998 t .i64 .i64 a b h
theorem act_eq (i j : Ac) (w : World) : (Op.equalIn 10000 23 (.agg #[.int .i64 i.1, .int .i64 i.2.1, .int .i64 i.2.2]) (.agg #[.int .i64 j.1, .int .i64 j.2.1, .int .i64 j.2.2])).run Tryd.prog w = .ok (decide (i = j)) w := by
  rw [run_equalIn_agg w 9999 23 _ _ (by kernel_rfl) (by kernel_rfl)]
  obtain ⟨a, b, c⟩ := i
  obtain ⟨a', b', c'⟩ := j
  simp only [Prod.mk.injEq]
  by_cases h0 : a = a' <;> by_cases h1 : b = b' <;> by_cases h2 : c = c' <;>
    simp [Program.fieldsOf, Tryd.underlying23, Op.eqFields, part_0, part_1, part_2, eqi 3 Tryd.underlying3, h0, h1, h2]
theorem eq_guard : Tryd.prog.eqGuardType Tryd.prog.depth 23 = false := by kernel_rfl
theorem ret_bool {a b : Bool} (h : a = b) : Ending.returned (Value.bool a) = .returned (.bool b) := by rw [h]
set_option maxHeartbeats 2000000 in
set_option maxRecDepth 100000 in
theorem asame_any (v v' : Value) (l m : List Ac) (w : World) (hI : AAt w v l) (hJ : AAt w v' m) (hl : l.length ≤ 100000) (hk : m.length ≤ 100000) : Calls Tryd.prog 14 #[v, v'] w (RetW (.bool (decide (l = m))) fun w' => Chg NoB w w') := by
  obtain ⟨p, cap, rfl⟩ := hI.form
  obtain ⟨q, caq, rfl⟩ := hJ.form
  have HI := Lib.hid hI
  have HJ := Lib.hid hJ
  clear hI hJ
  by_cases he : l.length = m.length
  · have t0 : (l.length != m.length) = false := by simp [he]
    have t1 : ((l.length : Int) != (m.length : Int)) = false := by simp [he]
    have HE := Lib.hid he
    clear he
    go_enter Tryd.func14, Tryd.ntmps14
    go_wp2_with fail
    go_loopg [13] l.length (fun g ix wr => ∃ n : Nat, n + g = l.length ∧ ix = .int .i64 n ∧ l.take n = m.take n ∧ Chg NoB w wr)
    case atStart => exact ⟨0, by omega, rfl, rfl, Chg.refl _ _⟩
    case round =>
      obtain ⟨n, hn, rfl, hp, hC⟩ := hrel
      have HP := Lib.hid hp
      have HN := Lib.hid hn
      have hnl : n ≤ l.length := by omega
      clear hp hn
      by_cases hlt : n < l.length
      · obtain ⟨i, hi⟩ : ∃ i, l[n]? = some i := ⟨l[n], by simp [hlt]⟩
        have hlt2 : n < m.length := by have := HE.out; omega
        obtain ⟨j, hj⟩ : ∃ j, m[n]? = some j := ⟨m[n], by simp [hlt2]⟩
        obtain ⟨hcap, g, of, rfl, hg, x0, x1, x2⟩ := (HI.out.chg0 hC).at hi
        obtain ⟨hcaq, g', of', rfl, hg', y0, y1, y2⟩ := (HJ.out.chg0 hC).at hj
        have n0 : (0 : Int) ≤ n := by omega
        have HL := Lib.hid hi
        have HM := Lib.hid hj
        have HC := Lib.hid hC
        clear hi hj hC
        have k1 := act_eq i j
        have k2 := eq_guard
        obtain ⟨b, hb⟩ : ∃ b, decide (i = j) = b := ⟨_, rfl⟩
        rw [hb] at k1
        have HB := Lib.hid hb
        clear hb
        cases b
        · go_wp2_with fail
          go_quiet (fail)
          go_wp2_with fail
          go_ret
          refine ⟨ret_bool ?_, HC.out.drewN _⟩
          symm
          rw [decide_eq_false_iff_not]
          intro e
          have := HL.out
          rw [e, HM.out] at this
          cases this
          exact absurd HB.out (by simp)
        · go_wp2_with fail
          go_quiet (fail)
          go_wp2_with fail
          go_roundg (l.length - (n + 1))
          case measure => have := HN.out; omega
          case rel => exact ⟨n + 1, by have := HN.out; omega, by go_num, by rw [List.take_add_one, List.take_add_one, HP.out, HL.out, HM.out, of_decide_eq_true HB.out], HC.out.drewN _⟩
      · obtain rfl : n = l.length := by omega
        go_wp2_with fail
        go_ret
        exact ⟨ret_bool (by have h := HP.out; rw [List.take_length, HE.out, List.take_length] at h; simp [h]), hC⟩
  · have t0 : (l.length != m.length) = true := by simp [he]
    have t1 : ((l.length : Int) != (m.length : Int)) = true := by simp; omega
    have HE := Lib.hid he
    clear he
    go_enter Tryd.func14, Tryd.ntmps14
    go_wp2_with fail
    go_ret
    exact ⟨ret_bool (by symm; rw [decide_eq_false_iff_not]; intro e; exact HE.out (by rw [e])), Chg.refl _ _⟩
end Go.Proofs.YtfidiiifcmmffaaDoor
