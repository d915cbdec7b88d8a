/- Pieces of programs: small tests, Lock, Unlock, Move, joined pieces. No condition. -/
import Derived.Test.YtdkplhdinklflaaBuild
import Derived.Lib.AppendZerosOnto
set_option linter.unusedVariables false
namespace Go.Proofs.Ytdkplhdinklflaa
open Go.RowKit Go.RR

def ownB (n : Int) : Bool := decide (0 < n) && decide (n < 16)
def regB (n : Int) : Bool := decide (0 ≤ n) && decide (n < 16)
def fitsB (n : Int) : Bool := decide (-2048 ≤ n) && decide (n ≤ 2047)
def threeB (a b c : Int) : Bool := ownB a && ownB b && ownB c && (a != b) && (b != c) && (a != c)
def branchB (o : Int) : Bool := (o == 15) || (o == 16) || (o == 17)

theorem own_any (n : Int) (w : World) : Calls Try.prog 57 #[.int .i64 n] w fun e w' => e = .returned (.bool (ownB n)) ∧ w = w' := by
  by_cases h1 : 0 < n
  · have t1 : decide (0 < n) = true := decide_eq_true h1
    by_cases h2 : n < 16
    · have t2 : decide (n < 16) = true := decide_eq_true h2
      have e : ownB n = true := by unfold ownB; rw [t1, t2]; rfl
      rw [e]
      clear h1 h2 e
      go_enter Try.func57, Try.ntmps57
      go_wp2
      go_ret
      exact ⟨rfl, rfl⟩
    · have t2 : decide (n < 16) = false := decide_eq_false h2
      have e : ownB n = false := by unfold ownB; rw [t1, t2]; rfl
      rw [e]
      clear h1 h2 e
      go_enter Try.func57, Try.ntmps57
      go_wp2
      go_ret
      exact ⟨rfl, rfl⟩
  · have t1 : decide (0 < n) = false := decide_eq_false h1
    have e : ownB n = false := by unfold ownB; rw [t1]; rfl
    rw [e]
    clear h1 e
    go_enter Try.func57, Try.ntmps57
    go_wp2
    go_ret
    exact ⟨rfl, rfl⟩
theorem reg0_any (n : Int) (w : World) : Calls Try.prog 68 #[.int .i64 n] w fun e w' => e = .returned (.bool (regB n)) ∧ w = w' := by
  by_cases h1 : 0 ≤ n
  · have t1 : decide (0 ≤ n) = true := decide_eq_true h1
    by_cases h2 : n < 16
    · have t2 : decide (n < 16) = true := decide_eq_true h2
      have e : regB n = true := by unfold regB; rw [t1, t2]; rfl
      rw [e]
      clear h1 h2 e
      go_enter Try.func68, Try.ntmps68
      go_wp2
      go_ret
      exact ⟨rfl, rfl⟩
    · have t2 : decide (n < 16) = false := decide_eq_false h2
      have e : regB n = false := by unfold regB; rw [t1, t2]; rfl
      rw [e]
      clear h1 h2 e
      go_enter Try.func68, Try.ntmps68
      go_wp2
      go_ret
      exact ⟨rfl, rfl⟩
  · have t1 : decide (0 ≤ n) = false := decide_eq_false h1
    have e : regB n = false := by unfold regB; rw [t1]; rfl
    rw [e]
    clear h1 e
    go_enter Try.func68, Try.ntmps68
    go_wp2
    go_ret
    exact ⟨rfl, rfl⟩
theorem fits_any (n : Int) (w : World) : Calls Try.prog 58 #[.int .i64 n] w fun e w' => e = .returned (.bool (fitsB n)) ∧ w = w' := by
  by_cases h1 : -2048 ≤ n
  · have t1 : decide (-2048 ≤ n) = true := decide_eq_true h1
    by_cases h2 : n ≤ 2047
    · have t2 : decide (n ≤ 2047) = true := decide_eq_true h2
      have e : fitsB n = true := by unfold fitsB; rw [t1, t2]; rfl
      rw [e]
      clear h1 h2 e
      go_enter Try.func58, Try.ntmps58
      go_wp2
      go_ret
      exact ⟨rfl, rfl⟩
    · have t2 : decide (n ≤ 2047) = false := decide_eq_false h2
      have e : fitsB n = false := by unfold fitsB; rw [t1, t2]; rfl
      rw [e]
      clear h1 h2 e
      go_enter Try.func58, Try.ntmps58
      go_wp2
      go_ret
      exact ⟨rfl, rfl⟩
  · have t1 : decide (-2048 ≤ n) = false := decide_eq_false h1
    have e : fitsB n = false := by unfold fitsB; rw [t1]; rfl
    rw [e]
    clear h1 e
    go_enter Try.func58, Try.ntmps58
    go_wp2
    go_ret
    exact ⟨rfl, rfl⟩
theorem few_any (p : Option Addr) (n cap : Nat) (w : World) (hn : n ≤ 9223372036854775807) : Calls Try.prog 10 #[.slice p n cap] w fun e w' => e = .returned (.bool (decide (n ≤ 200))) ∧ w = w' := by
  by_cases h : n ≤ 200
  all_goals
    go_enter Try.func10, Try.ntmps10
    go_wp2
    go_ret
    exact ⟨ret_bool (by simp; omega), rfl⟩
theorem branch_any (n : Int) (w : World) : Calls Try.prog 67 #[.int .i64 n] w fun e w' => e = .returned (.bool (branchB n)) ∧ w = w' := by
  unfold branchB
  cases h1 : n == 15
  · cases h2 : n == 16
    · cases h3 : n == 17
      all_goals
        go_enter Try.func67, Try.ntmps67
        go_wp2
        go_ret
        exact ⟨rfl, rfl⟩
    · go_enter Try.func67, Try.ntmps67
      go_wp2
      go_ret
      exact ⟨rfl, rfl⟩
  · go_enter Try.func67, Try.ntmps67
    go_wp2
    go_ret
    exact ⟨rfl, rfl⟩
theorem three_any (a b c : Int) (w : World) : Calls Try.prog 59 #[.int .i64 a, .int .i64 b, .int .i64 c] w fun e w' => e = .returned (.bool (threeB a b c)) ∧ w = w' := by
  have E : threeB a b c = (ownB a && (ownB b && (ownB c && ((a != b) && ((b != c) && (a != c)))))) := by unfold threeB; simp only [Bool.and_assoc]
  rw [E]
  clear E
  obtain ⟨b1, h1⟩ : ∃ x, ownB a = x := ⟨_, rfl⟩
  obtain ⟨b2, h2⟩ : ∃ x, ownB b = x := ⟨_, rfl⟩
  obtain ⟨b3, h3⟩ : ∃ x, ownB c = x := ⟨_, rfl⟩
  rw [h1, h2, h3]
  have H1 := Lib.hid h1
  have H2 := Lib.hid h2
  have H3 := Lib.hid h3
  clear h1 h2 h3
  cases e4 : a != b <;> cases e5 : b != c <;> cases e6 : a != c
  all_goals
    go_enter Try.func59, Try.ntmps59
    go_wp2_with fail
    refine (own_any a _).mono ?_
    rintro e w1 ⟨rfl, rfl⟩
    rw [H1.out]
    cases b1
    · go_wp2_with fail
      go_ret
      exact ⟨rfl, rfl⟩
    · go_wp2_with fail
      refine (own_any b _).mono ?_
      rintro e w1 ⟨rfl, rfl⟩
      rw [H2.out]
      cases b2
      · go_wp2_with fail
        go_ret
        exact ⟨rfl, rfl⟩
      · go_wp2_with fail
        refine (own_any c _).mono ?_
        rintro e w1 ⟨rfl, rfl⟩
        rw [H3.out]
        cases b3
        all_goals
          go_wp2_with fail
          go_ret
          exact ⟨rfl, rfl⟩

theorem INinfo : (Try.prog.info? 32).map (fun i => (i.zero, i.size, i.bytes)) = some (some (.agg #[.int .i64 0, .int .i64 0, .int .i64 0, .int .i64 0, .int .i64 0]), 5, 40) := by kernel_rfl

/-- A piece that a call has made. -/
def IsNew (w w' : World) (v : Value) (l : List In) : Prop := Own w' (fun k => w.heap.size ≤ k) 32 5 v l.length (icells l) ∧ Chg NoB w w'
theorem IsNew.nil (w : World) : IsNew w w (.slice none 0 0) [] := ⟨Own.nil _ _ _ _, Chg.refl _ _⟩
theorem IsNew.fresh (w : World) (l : List In) (cs : List Value) (hc : icells l = cs) (n : Nat) (hn : l.length = n) (h : n ≤ 1000) : IsNew w (w.alloc (.cells cs.toArray 32)) (.slice (some ⟨w.heap.size, 0, none⟩) n n) l := by
  subst hc hn
  exact ⟨(Own.fresh w (icells l) 32 l.length (icells_len l) (by unfold maxLen; omega)).mono fun k hk => by omega, (Chg.refl _ _).alloc _⟩
theorem IsNew.from {w w1 w2 : World} {v : Value} {l : List In} (h : IsNew w1 w2 v l) (c : Chg NoB w w1) : IsNew w w2 v l := ⟨h.1.mono fun k hk => Nat.le_trans c.size hk, c.step h.2⟩
theorem IsNew.then0 {w w1 w2 : World} {v : Value} {l : List In} (h : IsNew w w1 v l) (c : Chg NoB w1 w2) : IsNew w w2 v l := ⟨h.1.chg0 c, h.2.step c⟩

def lockB (base imm t u : Int) : Bool := threeB base t u && fitsB imm
def lockL (base imm t u : Int) : List In := [⟨2, t, base, 0, imm⟩, ⟨1, u, 0, 0, 1⟩, ⟨31, u, t, u, 0⟩, ⟨16, 0, u, 0, -2⟩]
theorem lock_yes (base imm t u : Int) (w : World) (h : lockB base imm t u = true) : Calls Try.prog 15 #[.int .i64 base, .int .i64 imm, .int .i64 t, .int .i64 u] w (RetSl fun v w' => (∃ a, v = .slice (some a) 4 4) ∧ IsNew w w' v (lockL base imm t u)) := by
  unfold lockB at h
  rw [Bool.and_eq_true] at h
  obtain ⟨h1, h2⟩ := h
  have H1 := Lib.hid h1
  have H2 := Lib.hid h2
  clear h1 h2
  go_enter Try.func15, Try.ntmps15
  go_wp2_with fail
  refine (three_any base t u _).mono ?_
  rintro e w1 ⟨rfl, rfl⟩
  rw [H1.out]
  go_wp2_with fail
  refine (fits_any imm _).mono ?_
  rintro e w1 ⟨rfl, rfl⟩
  rw [H2.out]
  go_wp2_with fail
  go_ret
  exact ⟨_, rfl, ⟨_, rfl⟩, IsNew.fresh _ _ _ rfl _ rfl (by omega)⟩
theorem lock_no (base imm t u : Int) (w : World) (h : lockB base imm t u = false) : Calls Try.prog 15 #[.int .i64 base, .int .i64 imm, .int .i64 t, .int .i64 u] w fun e w' => e = .returned (.slice none 0 0) ∧ w = w' := by
  obtain ⟨b1, h1⟩ : ∃ x, threeB base t u = x := ⟨_, rfl⟩
  obtain ⟨b2, h2⟩ : ∃ x, fitsB imm = x := ⟨_, rfl⟩
  have h3 : (b1 && b2) = false := by rw [← h1, ← h2]; exact h
  have H1 := Lib.hid h1
  have H2 := Lib.hid h2
  clear h1 h2 h
  go_enter Try.func15, Try.ntmps15
  go_wp2_with fail
  refine (three_any base t u _).mono ?_
  rintro e w1 ⟨rfl, rfl⟩
  rw [H1.out]
  cases b1
  · clear h3
    go_wp2_with fail
    go_ret
    exact ⟨rfl, rfl⟩
  · cases b2
    · clear h3
      go_wp2_with fail
      refine (fits_any imm _).mono ?_
      rintro e w1 ⟨rfl, rfl⟩
      rw [H2.out]
      go_wp2_with fail
      go_ret
      exact ⟨rfl, rfl⟩
    · cases h3
def unlockF (base imm : Int) : List In := if (ownB base && fitsB imm) = true then [⟨29, 0, base, 0, imm⟩] else []
def moveF (rd rs : Int) : List In := if (ownB rd && regB rs) = true then [⟨2, rd, rs, 0, 0⟩] else []
theorem unlock_any (base imm : Int) (w : World) : Calls Try.prog 13 #[.int .i64 base, .int .i64 imm] w (RetSl fun v w' => IsNew w w' v (unlockF base imm)) := by
  unfold unlockF
  obtain ⟨b1, h1⟩ : ∃ x, ownB base = x := ⟨_, rfl⟩
  obtain ⟨b2, h2⟩ : ∃ x, fitsB imm = x := ⟨_, rfl⟩
  rw [h1, h2]
  have H1 := Lib.hid h1
  have H2 := Lib.hid h2
  clear h1 h2
  go_enter Try.func13, Try.ntmps13
  go_wp2_with fail
  refine (own_any base _).mono ?_
  rintro e w1 ⟨rfl, rfl⟩
  rw [H1.out]
  cases b1
  · go_wp2_with fail
    go_ret
    exact ⟨_, rfl, IsNew.nil _⟩
  · go_wp2_with fail
    refine (fits_any imm _).mono ?_
    rintro e w1 ⟨rfl, rfl⟩
    rw [H2.out]
    cases b2
    · go_wp2_with fail
      go_ret
      exact ⟨_, rfl, IsNew.nil _⟩
    · go_wp2_with fail
      go_ret
      exact ⟨_, rfl, IsNew.fresh _ _ _ rfl _ rfl (by omega)⟩
theorem move_any (base imm : Int) (w : World) : Calls Try.prog 54 #[.int .i64 base, .int .i64 imm] w (RetSl fun v w' => IsNew w w' v (moveF base imm)) := by
  unfold moveF
  obtain ⟨b1, h1⟩ : ∃ x, ownB base = x := ⟨_, rfl⟩
  obtain ⟨b2, h2⟩ : ∃ x, regB imm = x := ⟨_, rfl⟩
  rw [h1, h2]
  have H1 := Lib.hid h1
  have H2 := Lib.hid h2
  clear h1 h2
  go_enter Try.func54, Try.ntmps54
  go_wp2_with fail
  refine (own_any base _).mono ?_
  rintro e w1 ⟨rfl, rfl⟩
  rw [H1.out]
  cases b1
  · go_wp2_with fail
    go_ret
    exact ⟨_, rfl, IsNew.nil _⟩
  · go_wp2_with fail
    refine (reg0_any imm _).mono ?_
    rintro e w1 ⟨rfl, rfl⟩
    rw [H2.out]
    cases b2
    · go_wp2_with fail
      go_ret
      exact ⟨_, rfl, IsNew.nil _⟩
    · go_wp2_with fail
      go_ret
      exact ⟨_, rfl, IsNew.fresh _ _ _ rfl _ rfl (by omega)⟩
end Go.Proofs.Ytdkplhdinklflaa
