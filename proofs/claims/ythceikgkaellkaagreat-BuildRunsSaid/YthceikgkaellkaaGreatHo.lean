/- Pieces of programs: right ones, alike ones, small tests. No condition. Pieces of programs: small tests, Lock, Unlock, Move, joined pieces. No condition. -/
import Derived.Test.YthceikgkaellkaaGreatGc
import Derived.Lib.AppendZerosOnto
set_option linter.unusedVariables false
namespace Go.Proofs.YthceikgkaellkaaGreat
open Go.RowKit Go.RR




def jumpB (o : Int) : Bool := decide (kd o = .B) || decide (kd o = .J)
def okAt (n len : Nat) (i : In) : Bool := rightB i && (!(jumpB i.op) || (decide (0 ≤ (n : Int) + i.im) && decide ((n : Int) + i.im ≤ len)))
def rightP (l : List In) : Bool := l.zipIdx.all fun p => okAt p.2 l.length p.1
theorem rightP_iff {l : List In} : rightP l = true ↔ ∀ n i, l[n]? = some i → okAt n l.length i = true := by
  unfold rightP
  rw [List.all_eq_true]
  refine ⟨fun h n i hn => h (i, n) (by rw [List.mem_zipIdx_iff_getElem?]; exact hn), fun h p hp => h p.2 p.1 ?_⟩
  rw [List.mem_zipIdx_iff_getElem?] at hp
  exact hp
theorem rightP_no {l : List In} {n : Nat} {i : In} (h : l[n]? = some i) (h2 : okAt n l.length i = false) : rightP l = false := by
  cases e : rightP l with
  | false => rfl
  | true => rw [rightP_iff.1 e n i h] at h2; cases h2
theorem rightB_im {i : In} (h : rightB i = true) : -2048 ≤ i.im ∧ i.im ≤ 2047 := by
  unfold rightB at h
  simp only [Bool.and_eq_true, decide_eq_true_eq] at h
  exact ⟨h.1.1.1.1.1.2, h.1.1.1.1.2⟩

set_option maxRecDepth 100000 in
theorem jumps_any (i : In) (w : World) : Calls Tryz.prog 110 #[.agg #[.int .i64 i.op, .int .i64 i.rd, .int .i64 i.rs, .int .i64 i.rt, .int .i64 i.im]] w (RetW (.bool (jumpB i.op)) fun w' => Chg NoB w w') := by
  have HC := Lib.hid ((Chg.refl NoB w).alloc (.cells #[.int .i64 i.op, .int .i64 i.rd, .int .i64 i.rs, .int .i64 i.rt, .int .i64 i.im] 40))
  obtain ⟨k, hk⟩ : ∃ k, kd i.op = k := ⟨_, rfl⟩
  have HK := Lib.hid hk
  unfold jumpB
  rw [hk]
  clear hk
  cases k
  all_goals
    go_enter Tryz.func110, Tryz.ntmps110
    go_wp2_with fail
    refine (kind_any _ _).mono ?_
    rintro e w1 ⟨rfl, rfl⟩
    rw [HK.out]
    simp only [Kd.s]
    go_wp2_with fail
    go_ret
    exact ⟨rfl, HC.out⟩

theorem okAt_kind {n len : Nat} {i : In} (h : rightB i = false) : okAt n len i = false := by simp [okAt, h]
theorem okAt_plain {n len : Nat} {i : In} (h : rightB i = true) (hj : jumpB i.op = false) : okAt n len i = true := by simp [okAt, h, hj]
theorem okAt_low {n len : Nat} {i : In} (hj : jumpB i.op = true) (h : (n : Int) + i.im < 0) : okAt n len i = false := by
  have : ¬ 0 ≤ (n : Int) + i.im := by omega
  simp [okAt, hj, this]
theorem okAt_high {n len : Nat} {i : In} (hj : jumpB i.op = true) (h : (len : Int) < n + i.im) : okAt n len i = false := by
  have : ¬ (n : Int) + i.im ≤ len := by omega
  simp [okAt, hj, this]
theorem okAt_in {n len : Nat} {i : In} (h : rightB i = true) (h0 : 0 ≤ (n : Int) + i.im) (h1 : (n : Int) + i.im ≤ len) : okAt n len i = true := by simp [okAt, h, h0, h1]


set_option maxHeartbeats 2000000 in
set_option maxRecDepth 100000 in
theorem bright_any (S : Nat → Prop) (v : Value) (l : List In) (w : World) (hs : Sl w S 5 v l.length (icells l)) (hl : l.length ≤ 100000) : Calls Tryz.prog 62 #[v] w (RetW (.bool (rightP l)) fun w' => Chg NoB w w') := by
  obtain ⟨p, cap, rfl, hI⟩ := InsAt.of hs hl
  have HI := Lib.hid hI
  clear hs hI
  go_enter Tryz.func62, Tryz.ntmps62
  go_wp2_with fail
  go_loopg [8] l.length (fun g ix wr => ∃ n : Nat, n + g = l.length ∧ ix = .int .i64 n ∧ (∀ m i, m < n → l[m]? = some i → okAt m l.length i = true) ∧ Chg NoB w wr)
  case atStart => exact ⟨0, by omega, rfl, fun m i hm => by omega, Chg.refl _ _⟩
  case round =>
    obtain ⟨n, hn, rfl, hp, hC⟩ := hrel
    have HP := Lib.hid hp
    have HN := Lib.hid hn
    have hnl : n ≤ l.length := by omega
    clear hp hn
    by_cases hlt : n < l.length
    · obtain ⟨i, hi⟩ : ∃ i, l[n]? = some i := ⟨l[n], by simp [hlt]⟩
      obtain ⟨g, of, rfl, hg, x0, x1, x2, x3, x4⟩ := (HI.out.chg0 hC).at hi
      have hcap := HI.out.cap
      have n0 : (0 : Int) ≤ n := by omega
      have HL := Lib.hid hi
      have HC := Lib.hid hC
      clear hi hC
      have B0 := Lib.hid (Blk.new wr #[.int .i64 i.op, .int .i64 i.rd, .int .i64 i.rs, .int .i64 i.rt, .int .i64 i.im] 40)
      have A0 := Lib.hid ((Chg.refl NoB wr).alloc (.cells #[.int .i64 i.op, .int .i64 i.rd, .int .i64 i.rs, .int .i64 i.rt, .int .i64 i.im] 40))
      go_wp2_with fail
      refine (right_any i _).mono ?_
      rintro e w1 ⟨rfl, C1⟩
      have B1 := Lib.hid (C1.blk0 B0.out)
      have HC1 := Lib.hid (HC.out.step (A0.out.step C1))
      clear x0 x1 x2 x3 x4 C1 B0 A0 HC hg
      cases hr : rightB i
      · have HR := Lib.hid hr
        clear hr
        go_wp2_with fail
        go_ret
        exact ⟨ret_bool (rightP_no HL.out (okAt_kind HR.out)).symm, HC1.out⟩
      · obtain ⟨m0, m1⟩ := rightB_im hr
        have HR := Lib.hid hr
        clear hr
        have x0 := B1.out.cell' (i := 0) (v := .int .i64 i.op) (by rfl)
        have x1 := B1.out.cell' (i := 1) (v := .int .i64 i.rd) (by rfl)
        have x2 := B1.out.cell' (i := 2) (v := .int .i64 i.rs) (by rfl)
        have x3 := B1.out.cell' (i := 3) (v := .int .i64 i.rt) (by rfl)
        have x4 := B1.out.cell' (i := 4) (v := .int .i64 i.im) (by rfl)
        have xl := B1.out.lt
        go_wp2_with fail
        refine (jumps_any i _).mono ?_
        rintro e w2 ⟨rfl, C2⟩
        replace HC1 := Lib.hid (HC1.out.step C2)
        clear x0 x1 x2 x3 x4 xl C2 B1
        cases hj : jumpB i.op
        · have HJ := Lib.hid hj
          clear hj
          go_wp2_with fail
          go_roundg (l.length - (n + 1))
          case measure => have := HN.out; omega
          case rel =>
            refine ⟨n + 1, by have := HN.out; omega, by go_num, fun m i' hm hi' => ?_, HC1.out⟩
            rcases Nat.lt_succ_iff_lt_or_eq.1 hm with h' | rfl
            · exact HP.out m i' h' hi'
            · rw [HL.out] at hi'
              cases hi'
              exact (okAt_plain HR.out HJ.out)
        · have HJ := Lib.hid hj
          clear hj
          by_cases hlo : (n : Int) + i.im < 0
          · have t0 : decide ((n : Int) + i.im < 0) = true := by simp; omega
            have HLO := Lib.hid hlo
            clear hlo
            go_wp2_with fail
            go_ret
            exact ⟨ret_bool (rightP_no HL.out (okAt_low HJ.out HLO.out)).symm, HC1.out⟩
          · have t0 : decide ((n : Int) + i.im < 0) = false := by simp; omega
            by_cases hhi : (l.length : Int) < n + i.im
            · have t1 : decide ((l.length : Int) < n + i.im) = true := by simp; omega
              have HHI := Lib.hid hhi
              clear hlo hhi
              go_wp2_with fail
              go_ret
              exact ⟨ret_bool (rightP_no HL.out (okAt_high HJ.out HHI.out)).symm, HC1.out⟩
            · have t1 : decide ((l.length : Int) < n + i.im) = false := by simp; omega
              have HLO := Lib.hid hlo
              have HHI := Lib.hid hhi
              clear hlo hhi
              go_wp2_with fail
              go_roundg (l.length - (n + 1))
              case measure => have := HN.out; omega
              case rel =>
                refine ⟨n + 1, by have := HN.out; omega, by go_num, fun m i' hm hi' => ?_, HC1.out⟩
                rcases Nat.lt_succ_iff_lt_or_eq.1 hm with h' | rfl
                · exact HP.out m i' h' hi'
                · rw [HL.out] at hi'
                  cases hi'
                  exact (okAt_in HR.out (by have := HLO.out; omega) (by have := HHI.out; omega))
    · obtain rfl : n = l.length := by omega
      go_wp2_with fail
      go_ret
      exact ⟨ret_bool (rightP_iff.2 fun m i hi => HP.out m i (List.getElem?_eq_some_iff.1 hi).1 hi).symm, hC⟩
end Go.Proofs.YthceikgkaellkaaGreat
set_option linter.unusedVariables false
namespace Go.Proofs.YthceikgkaellkaaGreat
open Go.RowKit Go.RR



def ownB (n : Int) : Bool := decide (0 < n) && decide (n < 16)
def regB (n : Int) : Bool := decide (0 ≤ n) && decide (n < 16)
def fitsB (n : Int) : Bool := decide (-2048 ≤ n) && decide (n ≤ 2047)
def threeB (a b c : Int) : Bool := ownB a && ownB b && ownB c && (a != b) && (b != c) && (a != c)
def branchB (o : Int) : Bool := (o == 15) || (o == 16) || (o == 17)

theorem own_any39 (n : Int) (w : World) : Calls Tryz.prog 64 #[.int .i64 n] w fun e w' => e = .returned (.bool (ownB n)) ∧ w = w' := by
  by_cases h1 : 0 < n
  · have t1 : decide (0 < n) = true := decide_eq_true h1
    by_cases h2 : n < 16
    · have t2 : decide (n < 16) = true := decide_eq_true h2
      have e : ownB n = true := by unfold ownB; rw [t1, t2]; rfl
      rw [e]
      clear h1 h2 e
      go_enter Tryz.func64, Tryz.ntmps64
      go_wp2
      go_ret
      exact ⟨rfl, rfl⟩
    · have t2 : decide (n < 16) = false := decide_eq_false h2
      have e : ownB n = false := by unfold ownB; rw [t1, t2]; rfl
      rw [e]
      clear h1 h2 e
      go_enter Tryz.func64, Tryz.ntmps64
      go_wp2
      go_ret
      exact ⟨rfl, rfl⟩
  · have t1 : decide (0 < n) = false := decide_eq_false h1
    have e : ownB n = false := by unfold ownB; rw [t1]; rfl
    rw [e]
    clear h1 e
    go_enter Tryz.func64, Tryz.ntmps64
    go_wp2
    go_ret
    exact ⟨rfl, rfl⟩
theorem reg0_any (n : Int) (w : World) : Calls Tryz.prog 65 #[.int .i64 n] w fun e w' => e = .returned (.bool (regB n)) ∧ w = w' := by
  by_cases h1 : 0 ≤ n
  · have t1 : decide (0 ≤ n) = true := decide_eq_true h1
    by_cases h2 : n < 16
    · have t2 : decide (n < 16) = true := decide_eq_true h2
      have e : regB n = true := by unfold regB; rw [t1, t2]; rfl
      rw [e]
      clear h1 h2 e
      go_enter Tryz.func65, Tryz.ntmps65
      go_wp2
      go_ret
      exact ⟨rfl, rfl⟩
    · have t2 : decide (n < 16) = false := decide_eq_false h2
      have e : regB n = false := by unfold regB; rw [t1, t2]; rfl
      rw [e]
      clear h1 h2 e
      go_enter Tryz.func65, Tryz.ntmps65
      go_wp2
      go_ret
      exact ⟨rfl, rfl⟩
  · have t1 : decide (0 ≤ n) = false := decide_eq_false h1
    have e : regB n = false := by unfold regB; rw [t1]; rfl
    rw [e]
    clear h1 e
    go_enter Tryz.func65, Tryz.ntmps65
    go_wp2
    go_ret
    exact ⟨rfl, rfl⟩
theorem fits_any (n : Int) (w : World) : Calls Tryz.prog 112 #[.int .i64 n] w fun e w' => e = .returned (.bool (fitsB n)) ∧ w = w' := by
  by_cases h1 : -2048 ≤ n
  · have t1 : decide (-2048 ≤ n) = true := decide_eq_true h1
    by_cases h2 : n ≤ 2047
    · have t2 : decide (n ≤ 2047) = true := decide_eq_true h2
      have e : fitsB n = true := by unfold fitsB; rw [t1, t2]; rfl
      rw [e]
      clear h1 h2 e
      go_enter Tryz.func112, Tryz.ntmps112
      go_wp2
      go_ret
      exact ⟨rfl, rfl⟩
    · have t2 : decide (n ≤ 2047) = false := decide_eq_false h2
      have e : fitsB n = false := by unfold fitsB; rw [t1, t2]; rfl
      rw [e]
      clear h1 h2 e
      go_enter Tryz.func112, Tryz.ntmps112
      go_wp2
      go_ret
      exact ⟨rfl, rfl⟩
  · have t1 : decide (-2048 ≤ n) = false := decide_eq_false h1
    have e : fitsB n = false := by unfold fitsB; rw [t1]; rfl
    rw [e]
    clear h1 e
    go_enter Tryz.func112, Tryz.ntmps112
    go_wp2
    go_ret
    exact ⟨rfl, rfl⟩
theorem branch_any (n : Int) (w : World) : Calls Tryz.prog 69 #[.int .i64 n] w fun e w' => e = .returned (.bool (branchB n)) ∧ w = w' := by
  unfold branchB
  cases h1 : n == 15
  · cases h2 : n == 16
    · cases h3 : n == 17
      all_goals
        go_enter Tryz.func69, Tryz.ntmps69
        go_wp2
        go_ret
        exact ⟨rfl, rfl⟩
    · go_enter Tryz.func69, Tryz.ntmps69
      go_wp2
      go_ret
      exact ⟨rfl, rfl⟩
  · go_enter Tryz.func69, Tryz.ntmps69
    go_wp2
    go_ret
    exact ⟨rfl, rfl⟩
theorem three_any (a b c : Int) (w : World) : Calls Tryz.prog 111 #[.int .i64 a, .int .i64 b, .int .i64 c] w fun e w' => e = .returned (.bool (threeB a b c)) ∧ w = w' := by
  have E : threeB a b c = (ownB a && (ownB b && (ownB c && ((a != b) && ((b != c) && (a != c)))))) := by unfold threeB; simp only [Bool.and_assoc]
  rw [E]
  clear E
  obtain ⟨b1, h1⟩ : ∃ x, ownB a = x := ⟨_, rfl⟩
  obtain ⟨b2, h2⟩ : ∃ x, ownB b = x := ⟨_, rfl⟩
  obtain ⟨b3, h3⟩ : ∃ x, ownB c = x := ⟨_, rfl⟩
  rw [h1, h2, h3]
  have H1 := Lib.hid h1
  have H2 := Lib.hid h2
  have H3 := Lib.hid h3
  clear h1 h2 h3
  cases e4 : a != b <;> cases e5 : b != c <;> cases e6 : a != c
  all_goals
    go_enter Tryz.func111, Tryz.ntmps111
    go_wp2_with fail
    refine (own_any39 a _).mono ?_
    rintro e w1 ⟨rfl, rfl⟩
    rw [H1.out]
    cases b1
    · go_wp2_with fail
      go_ret
      exact ⟨rfl, rfl⟩
    · go_wp2_with fail
      refine (own_any39 b _).mono ?_
      rintro e w1 ⟨rfl, rfl⟩
      rw [H2.out]
      cases b2
      · go_wp2_with fail
        go_ret
        exact ⟨rfl, rfl⟩
      · go_wp2_with fail
        refine (own_any39 c _).mono ?_
        rintro e w1 ⟨rfl, rfl⟩
        rw [H3.out]
        cases b3
        all_goals
          go_wp2_with fail
          go_ret
          exact ⟨rfl, rfl⟩

theorem INinfo : (Tryz.prog.info? 40).map (fun i => (i.zero, i.size, i.bytes)) = some (some (.agg #[.int .i64 0, .int .i64 0, .int .i64 0, .int .i64 0, .int .i64 0]), 5, 40) := by kernel_rfl

/-- A piece that a call has made. -/
def IsNew (w w' : World) (v : Value) (l : List In) : Prop := Own w' (fun k => w.heap.size ≤ k) 40 5 v l.length (icells l) ∧ Chg NoB w w'
theorem IsNew.nil (w : World) : IsNew w w (.slice none 0 0) [] := ⟨Own.nil _ _ _ _, Chg.refl _ _⟩
theorem IsNew.fresh (w : World) (l : List In) (cs : List Value) (hc : icells l = cs) (n : Nat) (hn : l.length = n) (h : n ≤ 1000) : IsNew w (w.alloc (.cells cs.toArray 40)) (.slice (some ⟨w.heap.size, 0, none⟩) n n) l := by
  subst hc hn
  exact ⟨(Own.fresh w (icells l) 40 l.length (icells_len l) (by unfold maxLen; omega)).mono fun k hk => by omega, (Chg.refl _ _).alloc _⟩
theorem IsNew.from {w w1 w2 : World} {v : Value} {l : List In} (h : IsNew w1 w2 v l) (c : Chg NoB w w1) : IsNew w w2 v l := ⟨h.1.mono fun k hk => Nat.le_trans c.size hk, c.step h.2⟩
theorem IsNew.then0 {w w1 w2 : World} {v : Value} {l : List In} (h : IsNew w w1 v l) (c : Chg NoB w1 w2) : IsNew w w2 v l := ⟨h.1.chg0 c, h.2.step c⟩

def lockB (base imm t u : Int) : Bool := threeB base t u && fitsB imm
def lockL (base imm t u : Int) : List In := [⟨2, t, base, 0, imm⟩, ⟨1, u, 0, 0, 1⟩, ⟨31, u, t, u, 0⟩, ⟨16, 0, u, 0, -2⟩]
theorem lock_yes (base imm t u : Int) (w : World) (h : lockB base imm t u = true) : Calls Tryz.prog 63 #[.int .i64 base, .int .i64 imm, .int .i64 t, .int .i64 u] w (RetSl fun v w' => (∃ a, v = .slice (some a) 4 4) ∧ IsNew w w' v (lockL base imm t u)) := by
  unfold lockB at h
  rw [Bool.and_eq_true] at h
  obtain ⟨h1, h2⟩ := h
  have H1 := Lib.hid h1
  have H2 := Lib.hid h2
  clear h1 h2
  go_enter Tryz.func63, Tryz.ntmps63
  go_wp2_with fail
  refine (three_any base t u _).mono ?_
  rintro e w1 ⟨rfl, rfl⟩
  rw [H1.out]
  go_wp2_with fail
  refine (fits_any imm _).mono ?_
  rintro e w1 ⟨rfl, rfl⟩
  rw [H2.out]
  go_wp2_with fail
  go_ret
  exact ⟨_, rfl, ⟨_, rfl⟩, IsNew.fresh _ _ _ rfl _ rfl (by omega)⟩
theorem lock_no (base imm t u : Int) (w : World) (h : lockB base imm t u = false) : Calls Tryz.prog 63 #[.int .i64 base, .int .i64 imm, .int .i64 t, .int .i64 u] w fun e w' => e = .returned (.slice none 0 0) ∧ w = w' := by
  obtain ⟨b1, h1⟩ : ∃ x, threeB base t u = x := ⟨_, rfl⟩
  obtain ⟨b2, h2⟩ : ∃ x, fitsB imm = x := ⟨_, rfl⟩
  have h3 : (b1 && b2) = false := by rw [← h1, ← h2]; exact h
  have H1 := Lib.hid h1
  have H2 := Lib.hid h2
  clear h1 h2 h
  go_enter Tryz.func63, Tryz.ntmps63
  go_wp2_with fail
  refine (three_any base t u _).mono ?_
  rintro e w1 ⟨rfl, rfl⟩
  rw [H1.out]
  cases b1
  · clear h3
    go_wp2_with fail
    go_ret
    exact ⟨rfl, rfl⟩
  · cases b2
    · clear h3
      go_wp2_with fail
      refine (fits_any imm _).mono ?_
      rintro e w1 ⟨rfl, rfl⟩
      rw [H2.out]
      go_wp2_with fail
      go_ret
      exact ⟨rfl, rfl⟩
    · cases h3
def unlockF (base imm : Int) : List In := if (ownB base && fitsB imm) = true then [⟨29, 0, base, 0, imm⟩] else []
def moveF (rd rs : Int) : List In := if (ownB rd && regB rs) = true then [⟨2, rd, rs, 0, 0⟩] else []
theorem unlock_any (base imm : Int) (w : World) : Calls Tryz.prog 72 #[.int .i64 base, .int .i64 imm] w (RetSl fun v w' => IsNew w w' v (unlockF base imm)) := by
  unfold unlockF
  obtain ⟨b1, h1⟩ : ∃ x, ownB base = x := ⟨_, rfl⟩
  obtain ⟨b2, h2⟩ : ∃ x, fitsB imm = x := ⟨_, rfl⟩
  rw [h1, h2]
  have H1 := Lib.hid h1
  have H2 := Lib.hid h2
  clear h1 h2
  go_enter Tryz.func72, Tryz.ntmps72
  go_wp2_with fail
  refine (own_any39 base _).mono ?_
  rintro e w1 ⟨rfl, rfl⟩
  rw [H1.out]
  cases b1
  · go_wp2_with fail
    go_ret
    exact ⟨_, rfl, IsNew.nil _⟩
  · go_wp2_with fail
    refine (fits_any imm _).mono ?_
    rintro e w1 ⟨rfl, rfl⟩
    rw [H2.out]
    cases b2
    · go_wp2_with fail
      go_ret
      exact ⟨_, rfl, IsNew.nil _⟩
    · go_wp2_with fail
      go_ret
      exact ⟨_, rfl, IsNew.fresh _ _ _ rfl _ rfl (by omega)⟩
theorem move_any (base imm : Int) (w : World) : Calls Tryz.prog 26 #[.int .i64 base, .int .i64 imm] w (RetSl fun v w' => IsNew w w' v (moveF base imm)) := by
  unfold moveF
  obtain ⟨b1, h1⟩ : ∃ x, ownB base = x := ⟨_, rfl⟩
  obtain ⟨b2, h2⟩ : ∃ x, regB imm = x := ⟨_, rfl⟩
  rw [h1, h2]
  have H1 := Lib.hid h1
  have H2 := Lib.hid h2
  clear h1 h2
  go_enter Tryz.func26, Tryz.ntmps26
  go_wp2_with fail
  refine (own_any39 base _).mono ?_
  rintro e w1 ⟨rfl, rfl⟩
  rw [H1.out]
  cases b1
  · go_wp2_with fail
    go_ret
    exact ⟨_, rfl, IsNew.nil _⟩
  · go_wp2_with fail
    refine (reg0_any imm _).mono ?_
    rintro e w1 ⟨rfl, rfl⟩
    rw [H2.out]
    cases b2
    · go_wp2_with fail
      go_ret
      exact ⟨_, rfl, IsNew.nil _⟩
    · go_wp2_with fail
      go_ret
      exact ⟨_, rfl, IsNew.fresh _ _ _ rfl _ rfl (by omega)⟩
end Go.Proofs.YthceikgkaellkaaGreat
