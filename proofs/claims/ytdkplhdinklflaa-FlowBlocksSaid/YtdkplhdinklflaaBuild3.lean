/- Pieces of programs: alike ones, joined ones. No condition. -/
import Derived.Test.YtdkplhdinklflaaBuild2
set_option linter.unusedVariables false
namespace Go.Proofs.Ytdkplhdinklflaa
open Go.RowKit Go.RR

theorem part_0 (a b c d e : Int) (w : World) : (part 30 #[.int .i64 a, .int .i64 b, .int .i64 c, .int .i64 d, .int .i64 e] 0).run Try.prog w = .ok (.int .i64 a) w := by kernel_rfl
theorem part_1 (a b c d e : Int) (w : World) : (part 3 #[.int .i64 a, .int .i64 b, .int .i64 c, .int .i64 d, .int .i64 e] 1).run Try.prog w = .ok (.int .i64 b) w := by kernel_rfl
theorem part_2 (a b c d e : Int) (w : World) : (part 3 #[.int .i64 a, .int .i64 b, .int .i64 c, .int .i64 d, .int .i64 e] 2).run Try.prog w = .ok (.int .i64 c) w := by kernel_rfl
theorem part_3 (a b c d e : Int) (w : World) : (part 3 #[.int .i64 a, .int .i64 b, .int .i64 c, .int .i64 d, .int .i64 e] 3).run Try.prog w = .ok (.int .i64 d) w := by kernel_rfl
theorem part_4 (a b c d e : Int) (w : World) : (part 3 #[.int .i64 a, .int .i64 b, .int .i64 c, .int .i64 d, .int .i64 e] 4).run Try.prog w = .ok (.int .i64 e) w := by kernel_rfl
theorem eqi (t : TypeId) (h : Try.prog.underlying t = some (.int .i64)) (a b : Int) (w : World) : (Op.equalIn 9999 t (.int .i64 a) (.int .i64 b)).run Try.prog w = .ok (a == b) w := run_equalIn_int w 9998 t .i64 .i64 a b h
theorem ins_eq (i j : In) (w : World) : (Op.equalIn 10000 32 (.agg #[.int .i64 i.op, .int .i64 i.rd, .int .i64 i.rs, .int .i64 i.rt, .int .i64 i.im]) (.agg #[.int .i64 j.op, .int .i64 j.rd, .int .i64 j.rs, .int .i64 j.rt, .int .i64 j.im])).run Try.prog w = .ok (decide (i = j)) w := by
  rw [run_equalIn_agg w 9999 32 _ _ (by kernel_rfl) (by kernel_rfl)]
  obtain ⟨a, b, c, d, e⟩ := i
  obtain ⟨a', b', c', d', e'⟩ := j
  simp only [In.mk.injEq]
  by_cases h0 : a = a' <;> by_cases h1 : b = b' <;> by_cases h2 : c = c' <;> by_cases h3 : d = d' <;> by_cases h4 : e = e' <;>
    simp [Program.fieldsOf, Try.underlying32, Op.eqFields, part_0, part_1, part_2, part_3, part_4, eqi 30 Try.underlying30, eqi 3 Try.underlying3, h0, h1, h2, h3, h4]
theorem eq_guard : Try.prog.eqGuardType Try.prog.depth 32 = false := by kernel_rfl

set_option maxHeartbeats 2000000 in
set_option maxRecDepth 100000 in
theorem same_any (S S' : Nat → Prop) (v v' : Value) (l m : List In) (w : World) (hs : Sl w S 5 v l.length (icells l)) (hm : Sl w S' 5 v' m.length (icells m)) (hl : l.length ≤ 100000) (hk : m.length ≤ 100000) : Calls Try.prog 14 #[v, v'] w (RetW (.bool (decide (l = m))) fun w' => Chg NoB w w') := by
  obtain ⟨p, cap, rfl, hI⟩ := InsAt.of hs hl
  obtain ⟨q, caq, rfl, hJ⟩ := InsAt.of hm hk
  have HI := Lib.hid hI
  have HJ := Lib.hid hJ
  clear hs hI hm hJ
  by_cases he : l.length = m.length
  · have t0 : (l.length != m.length) = false := by simp [he]
    have t1 : ((l.length : Int) != (m.length : Int)) = false := by simp [he]
    have HE := Lib.hid he
    clear he
    go_enter Try.func14, Try.ntmps14
    go_wp2_with fail
    go_loopg [13] l.length (fun g ix wr => ∃ n : Nat, n + g = l.length ∧ ix = .int .i64 n ∧ l.take n = m.take n ∧ Chg NoB w wr)
    case atStart => exact ⟨0, by omega, rfl, rfl, Chg.refl _ _⟩
    case round =>
      obtain ⟨n, hn, rfl, hp, hC⟩ := hrel
      have HP := Lib.hid hp
      have HN := Lib.hid hn
      have hnl : n ≤ l.length := by omega
      clear hp hn
      by_cases hlt : n < l.length
      · obtain ⟨i, hi⟩ : ∃ i, l[n]? = some i := ⟨l[n], by simp [hlt]⟩
        have hlt2 : n < m.length := by have := HE.out; omega
        obtain ⟨j, hj⟩ : ∃ j, m[n]? = some j := ⟨m[n], by simp [hlt2]⟩
        obtain ⟨g, of, rfl, hg, x0, x1, x2, x3, x4⟩ := (HI.out.chg0 hC).at hi
        obtain ⟨g', of', rfl, hg', y0, y1, y2, y3, y4⟩ := (HJ.out.chg0 hC).at hj
        have hcap := HI.out.cap
        have hcaq := HJ.out.cap
        have n0 : (0 : Int) ≤ n := by omega
        have HL := Lib.hid hi
        have HM := Lib.hid hj
        have HC := Lib.hid hC
        clear hi hj hC
        have k1 := ins_eq i j
        have k2 := eq_guard
        obtain ⟨b, hb⟩ : ∃ b, decide (i = j) = b := ⟨_, rfl⟩
        rw [hb] at k1
        have HB := Lib.hid hb
        clear hb
        cases b
        · go_wp2_with fail
          go_quiet (fail)
          go_wp2_with fail
          go_ret
          refine ⟨ret_bool ?_, HC.out.drewN _⟩
          symm
          rw [decide_eq_false_iff_not]
          intro e
          have := HL.out
          rw [e, HM.out] at this
          cases this
          exact absurd HB.out (by simp)
        · go_wp2_with fail
          go_quiet (fail)
          go_wp2_with fail
          go_roundg (l.length - (n + 1))
          case measure => have := HN.out; omega
          case rel => exact ⟨n + 1, by have := HN.out; omega, by go_num, by rw [List.take_add_one, List.take_add_one, HP.out, HL.out, HM.out, of_decide_eq_true HB.out], HC.out.drewN _⟩
      · obtain rfl : n = l.length := by omega
        go_wp2_with fail
        go_ret
        exact ⟨ret_bool (by have h := HP.out; rw [List.take_length, HE.out, List.take_length] at h; simp [h]), hC⟩
  · have t0 : (l.length != m.length) = true := by simp [he]
    have t1 : ((l.length : Int) != (m.length : Int)) = true := by simp; omega
    have HE := Lib.hid he
    clear he
    go_enter Try.func14, Try.ntmps14
    go_wp2_with fail
    go_ret
    exact ⟨ret_bool (by symm; simp; intro e; exact HE.out (by rw [e])), Chg.refl _ _⟩

theorem oper_zeros {P : Program} {ops : Array Oper} {rest : List Oper} {o : Oper} {a : Act} {w : World} {Q : Exit → Act → World → Prop} (hgd : o.guard = none) (s x : Operand) (t tn E : TypeId)
    (ho : o.op = .call { callee := .builtin .append, args := #[s, x], argTypes := #[t, tn] }) (i : TypeInfo) (z : Value) (kq kn : IntKind) (ht : P.underlying t = some (.slice E)) (htn : P.underlying tn = some (.int kn)) (hi : P.info? E = some i) (hz : i.zero = some z)
    (hsz : z.cells.size = i.size) (hs : a.eval s = .slice none 0 0) (k : Nat) (hx : a.eval x = .int kq k) (h0 : 0 < k) (hs0 : 0 < i.size) (h63 : k ≤ maxLen) (h48 : k * i.bytes ≤ 140737488355328)
    (h : ∀ c w', Own w' (fun q => w.heap.size ≤ q) E i.size (.slice (some ⟨w.heap.size, 0, none⟩) 0 c) 0 [] → Chg NoB w w' → k ≤ c → wpList P ops Q rest (a.put o.dst (.slice (some ⟨w.heap.size, 0, none⟩) k c)) w') : wpList P ops Q (o :: rest) a w := by
  refine wpList_plain hgd fun K hK => ?_
  have hr := Lib.run_append_grow_zeros (P := P) w t tn o.type E i z kq kn ht htn hi hz none 0 0 [] (by simp [Builtin.firstCells]) k h0 hs0 (by omega) (by unfold maxLen at h63; omega) (by omega) (growslice_fits (by omega) (by rw [Nat.zero_add]; exact h48))
  unfold Oper.wp execOp
  simp only [ho, resolve, invoke, builtin, Sem.run_bind, Sem.run_pure, Result.andThen_ok, List.map_toArray, List.map_cons, List.map_nil, hs, hx, hr]
  have hge := grownCap_ge w (0 + k) 0 E
  refine hK _ _ (by
    have := h (grownCap w (0 + k) 0 E) _ ?_ (((Chg.refl NoB w).drew).alloc (.cells ((#[] : Array Value) ++ Builtin.zeroCells z.cells k ++ Builtin.zeroCells z.cells (grownCap w (0 + k) 0 E - (0 + k))) E)) (by omega)
    · simpa using this
    · refine ⟨by simp, .inr ⟨w.heap.size, 0, _, _, rfl, Nat.le_refl _, heap_alloc_new w.drew _, Nat.zero_le _, grownCap_le_maxLen w (0 + k) 0 E (by omega), ?_, fun j u hu => by simp at hu⟩⟩
      simp only [Array.size_append, size_zeroCells, hsz]
      simp
      rw [← Nat.add_mul]
      exact Nat.mul_le_mul_right _ (by omega))
end Go.Proofs.Ytdkplhdinklflaa
