/- Pieces of programs: Within, and the registers that they use. No condition. -/
import Derived.Test.YtdkplhdinklflaaBuild9
set_option linter.unusedVariables false
namespace Go.Proofs.Ytdkplhdinklflaa
open Go.RowKit Go.RR

theorem rightP_app {a b : List In} (ha : rightP a = true) (hb : rightP b = true) : rightP (a ++ b) = true := by
  rw [rightP_iff] at *
  intro n i hi
  rw [List.getElem?_append] at hi
  have fit : ∀ (m len len' : Nat), okAt m len i = true → len + (n - m) ≤ len' → m ≤ n → okAt n len' i = true := by
    intro m len len' h h1 h2
    unfold okAt at *
    simp only [Bool.and_eq_true, Bool.or_eq_true, Bool.not_eq_true', decide_eq_true_eq] at *
    refine ⟨h.1, h.2.imp id fun h => ?_⟩
    omega
  split at hi
  · exact fit n a.length _ (ha n i hi) (by simp) (by omega)
  · exact fit (n - a.length) b.length _ (hb _ i hi) (by simp; omega) (by omega)
theorem unlockF_yes {base imm : Int} (h1 : ownB base = true) (h2 : fitsB imm = true) : unlockF base imm = [⟨29, 0, base, 0, imm⟩] := by unfold unlockF; rw [if_pos]; simp [h1, h2]
theorem unlockF_no {base imm : Int} (h : (ownB base && fitsB imm) = false) : unlockF base imm = [] := by unfold unlockF; rw [if_neg]; simp [h]
theorem lockB_in {base imm t u : Int} (h : lockB base imm t u = true) : ownB base = true ∧ ownB t = true ∧ ownB u = true ∧ fitsB imm = true := by
  unfold lockB threeB at h
  simp only [Bool.and_eq_true] at h
  exact ⟨h.1.1.1.1.1.1, h.1.1.1.1.1.2, h.1.1.1.1.2, h.2⟩
theorem unlock_right {base imm : Int} (h1 : ownB base = true) (h2 : fitsB imm = true) : rightP [⟨29, 0, base, 0, imm⟩] = true := by
  have hf' : -2048 ≤ imm ∧ imm ≤ 2047 := by unfold fitsB at h2; simpa using h2
  rw [rightP_iff]
  intro n i hi
  rcases n with _ | n
  · cases hi; exact okAt_row .S rfl (by decide) hf' rfl (okr_own h1) rfl (.inr rfl) (.inl (by decide))
  · simp at hi
def withinF (base imm t u : Int) (p : List In) : List In := if (lockB base imm t u && rightP p) = true then lockL base imm t u ++ (p ++ unlockF base imm) else []
theorem withinF_no {base imm t u : Int} {p : List In} (h : lockB base imm t u = false ∨ rightP p = false) : withinF base imm t u p = [] := by
  unfold withinF
  rw [if_neg]
  rcases h with h | h <;> simp [h]
theorem withinF_yes {base imm t u : Int} {p : List In} (h1 : lockB base imm t u = true) (h2 : rightP p = true) : withinF base imm t u p = lockL base imm t u ++ (p ++ unlockF base imm) := by
  unfold withinF
  rw [if_pos]
  simp [h1, h2]
theorem withinF_right {base imm t u : Int} {p : List In} (h1 : lockB base imm t u = true) (h2 : rightP p = true) : rightP (withinF base imm t u p) = true := by
  rw [withinF_yes h1 h2]
  obtain ⟨a, b, c, d⟩ := lockB_in h1
  rw [unlockF_yes a d]
  exact rightP_app (lockL_right h1) (rightP_app h2 (unlock_right a d))
theorem unlockF_len (base imm : Int) : (unlockF base imm).length ≤ 1 := by unfold unlockF; split <;> simp

set_option maxHeartbeats 2000000 in
set_option maxRecDepth 100000 in
theorem within_any (base imm t u : Int) (v : Value) (p : List In) (w : World) (hp : PAt w v p) (hl : p.length ≤ 1000) : Calls Try.prog 12 #[.int .i64 base, .int .i64 imm, .int .i64 t, .int .i64 u, v] w (RetSl fun x w' => IsNew w w' x (withinF base imm t u p)) := by
  obtain ⟨pp, pc, rfl⟩ := hp.form
  have HP := Lib.hid hp
  clear hp
  obtain ⟨b4, h4⟩ : ∃ x, rightP p = x := ⟨_, rfl⟩
  have H4 := Lib.hid h4
  clear h4
  by_cases hb : lockB base imm t u = true
  · have HB := Lib.hid hb
    clear hb
    go_enter Try.func12, Try.ntmps12
    go_wp2_with fail
    refine (lock_yes base imm t u _ HB.out).mono ?_
    rintro e w1 ⟨v1, rfl, ⟨a, rfl⟩, N1⟩
    have heq := fun w' => Lib.run_eql_slice_nil (P := Try.prog) w' 23 32 (some a) 4 4 0 0 Try.underlying23
    have HN1 := Lib.hid N1
    clear N1
    go_wp2_with fail
    refine (bright_any _ _ p _ (HP.out.chg0 HN1.out.2).choose_spec (by omega)).mono ?_
    rintro e w2 ⟨rfl, C2⟩
    rw [H4.out]
    have HC2 := Lib.hid C2
    clear C2
    cases b4
    ·
      go_wp2_with fail
      go_ret
      exact ⟨_, rfl, by rw [withinF_no (.inr H4.out)]; exact ⟨Own.nil _ _ _ _, HN1.out.2.step HC2.out⟩⟩
    · go_wp2_with fail
      refine (unlock_any base imm _).mono ?_
      rintro e w3 ⟨v3, rfl, N3⟩
      obtain ⟨p3, c3, e⟩ := N3.1.form
      subst e
      have HN3 := Lib.hid N3
      clear N3
      have hul := unlockF_len base imm
      go_wp2_with fail
      have hR := (HN1.out.at.chg0 (HC2.out.step HN3.out.2)).rows ((HP.out.chg0 ((HN1.out.2.step HC2.out).step HN3.out.2)).rows (HN3.out.at.rows (PRows.nil _)))
      refine (seq_rows _ _ _ hR _ rfl 3 rfl (by omega) (by simp [lockL]; omega)).mono ?_
      rintro e w4 ⟨v4, rfl, N4⟩
      have HN4 := Lib.hid (show IsNew _ w4 v4 (withinF base imm t u p) by rw [withinF_yes HB.out H4.out]; simpa using N4)
      have HC := Lib.hid ((HN1.out.2.step HC2.out).step HN3.out.2)
      clear N4 hR
      go_wp2_with fail
      go_ret
      exact ⟨_, rfl, HN4.out.from HC.out⟩
  · have hb' : lockB base imm t u = false := by simpa using hb
    have HB := Lib.hid hb'
    clear hb hb'
    go_enter Try.func12, Try.ntmps12
    go_wp2_with fail
    refine (lock_no base imm t u _ HB.out).mono ?_
    rintro e w1 ⟨rfl, rfl⟩
    have heq := fun w' => Lib.run_eql_slice_nil (P := Try.prog) w' 23 32 none 0 0 0 0 Try.underlying23
    go_wp2_with fail
    go_ret
    exact ⟨_, rfl, by rw [withinF_no (.inl HB.out)]; exact ⟨Own.nil _ _ _ _, Chg.refl _ _⟩⟩

def regsL (i : In) : List Int := (if (kd i.op).d then [i.rd] else []) ++ (if (kd i.op).q then [i.rs] else []) ++ (if (kd i.op).t then [i.rt] else [])
set_option maxHeartbeats 2000000 in
set_option maxRecDepth 100000 in
theorem registers_any (i : In) (w : World) : Calls Try.prog 71 #[.agg #[.int .i64 i.op, .int .i64 i.rd, .int .i64 i.rs, .int .i64 i.rt, .int .i64 i.im]] w (RetSl fun v w' => Sl w' (fun k => w.heap.size ≤ k) 1 v (regsL i).length ((regsL i).map (Value.int .i64)) ∧ Chg NoB w w') := by
  have hz : (w.alloc (.cells #[.int .i64 i.op, .int .i64 i.rd, .int .i64 i.rs, .int .i64 i.rt, .int .i64 i.im] 32)).heap.size = w.heap.size + 1 := by simp
  have HZ := Lib.hid hz
  clear hz
  obtain ⟨k, hk⟩ : ∃ k, kd i.op = k := ⟨_, rfl⟩
  have HK := Lib.hid hk
  clear hk
  cases k
  all_goals
    go_enter Try.func71, Try.ntmps71
    go_wp2_with fail
    refine (kind_any _ _).mono ?_
    rintro e w1 ⟨rfl, rfl⟩
    rw [HK.out]
    simp only [Kd.s]
    go_wp2_with fail
    go_ret
    refine ⟨_, rfl, ?_⟩
    unfold regsL
    rw [HK.out]
    simp only [Kd.d, Kd.q, Kd.t, if_true, if_false, List.append_nil, List.nil_append, List.cons_append, Bool.false_eq_true]
    first
    | exact ⟨Sl.nil _ _ _, (Chg.refl _ _).alloc _⟩
    | (refine ⟨?_, ((Chg.refl _ _).alloc _).alloc _⟩
       have N := Sl.fresh (size := 1) (w.alloc (.cells #[.int .i64 i.op, .int .i64 i.rd, .int .i64 i.rs, .int .i64 i.rt, .int .i64 i.im] 32)) [.int .i64 i.rd] 3 1 rfl
       rw [HZ.out] at N
       exact N.mono fun k hk => by omega)
    | (refine ⟨?_, ((Chg.refl _ _).alloc _).alloc _⟩
       have N := Sl.fresh (size := 1) (w.alloc (.cells #[.int .i64 i.op, .int .i64 i.rd, .int .i64 i.rs, .int .i64 i.rt, .int .i64 i.im] 32)) [.int .i64 i.rd, .int .i64 i.rs] 3 2 rfl
       rw [HZ.out] at N
       exact N.mono fun k hk => by omega)
    | (refine ⟨?_, ((Chg.refl _ _).alloc _).alloc _⟩
       have N := Sl.fresh (size := 1) (w.alloc (.cells #[.int .i64 i.op, .int .i64 i.rd, .int .i64 i.rs, .int .i64 i.rt, .int .i64 i.im] 32)) [.int .i64 i.rs, .int .i64 i.rt] 3 2 rfl
       rw [HZ.out] at N
       exact N.mono fun k hk => by omega)
    | (refine ⟨?_, ((Chg.refl _ _).alloc _).alloc _⟩
       have N := Sl.fresh (size := 1) (w.alloc (.cells #[.int .i64 i.op, .int .i64 i.rd, .int .i64 i.rs, .int .i64 i.rt, .int .i64 i.im] 32)) [.int .i64 i.rd, .int .i64 i.rs, .int .i64 i.rt] 3 3 rfl
       rw [HZ.out] at N
       exact N.mono fun k hk => by omega)
end Go.Proofs.Ytdkplhdinklflaa
