/- Pieces of programs: right ones, alike ones, small tests. No condition. -/
import Derived.Test.YtdkplhdinklflaaIsa3
set_option linter.unusedVariables false
namespace Go.Proofs.Ytdkplhdinklflaa
open Go.RowKit Go.RR

def icells (l : List In) : List Value := l.flatMap In.cells
theorem icells_len (l : List In) : (icells l).length = l.length * 5 := by
  induction l with
  | nil => rfl
  | cons i l ih => unfold icells at ih ⊢; rw [List.flatMap_cons, List.length_append, ih]; simp [In.cells]; omega
theorem icells_at : ∀ (l : List In) (n : Nat) (i : In), l[n]? = some i → (icells l)[n * 5]? = some (.int .i64 i.op) ∧ (icells l)[n * 5 + 1]? = some (.int .i64 i.rd) ∧ (icells l)[n * 5 + 2]? = some (.int .i64 i.rs) ∧ (icells l)[n * 5 + 3]? = some (.int .i64 i.rt) ∧ (icells l)[n * 5 + 4]? = some (.int .i64 i.im)
  | [], n, i, h => by simp at h
  | j :: l, 0, i, h => by simp at h; subst h; exact ⟨rfl, rfl, rfl, rfl, rfl⟩
  | j :: l, n + 1, i, h => by
    have := icells_at l n i (by simpa using h)
    rw [show (n + 1) * 5 = n * 5 + 5 by omega]
    exact this
theorem icells_app (a b : List In) : icells (a ++ b) = icells a ++ icells b := by unfold icells; rw [List.flatMap_append]
theorem icells_one (l : List In) : ∀ u ∈ icells l, u.oneCell' = true := by
  intro u hu
  unfold icells at hu
  obtain ⟨i, -, h⟩ := List.mem_flatMap.1 hu
  simp only [In.cells, List.mem_cons, List.not_mem_nil, or_false] at h
  rcases h with rfl | rfl | rfl | rfl | rfl <;> rfl

def jumpB (o : Int) : Bool := decide (kd o = .B) || decide (kd o = .J)
def okAt (n len : Nat) (i : In) : Bool := rightB i && (!(jumpB i.op) || (decide (0 ≤ (n : Int) + i.im) && decide ((n : Int) + i.im ≤ len)))
def rightP (l : List In) : Bool := l.zipIdx.all fun p => okAt p.2 l.length p.1
theorem rightP_iff {l : List In} : rightP l = true ↔ ∀ n i, l[n]? = some i → okAt n l.length i = true := by
  unfold rightP
  rw [List.all_eq_true]
  refine ⟨fun h n i hn => h (i, n) (by rw [List.mem_zipIdx_iff_getElem?]; exact hn), fun h p hp => h p.2 p.1 ?_⟩
  rw [List.mem_zipIdx_iff_getElem?] at hp
  exact hp
theorem rightP_no {l : List In} {n : Nat} {i : In} (h : l[n]? = some i) (h2 : okAt n l.length i = false) : rightP l = false := by
  cases e : rightP l with
  | false => rfl
  | true => rw [rightP_iff.1 e n i h] at h2; cases h2
theorem rightB_im {i : In} (h : rightB i = true) : -2048 ≤ i.im ∧ i.im ≤ 2047 := by
  unfold rightB at h
  simp only [Bool.and_eq_true, decide_eq_true_eq] at h
  exact ⟨h.1.1.1.1.1.2, h.1.1.1.1.2⟩

theorem ks_B (k : Kd) : (k.s.toList == [66]) = decide (k = .B) := by cases k <;> decide +kernel
theorem ks_J (k : Kd) : (k.s.toList == [74]) = decide (k = .J) := by cases k <;> decide +kernel

set_option maxRecDepth 100000 in
theorem jumps_any (i : In) (w : World) : Calls Try.prog 63 #[.agg #[.int .i64 i.op, .int .i64 i.rd, .int .i64 i.rs, .int .i64 i.rt, .int .i64 i.im]] w (RetW (.bool (jumpB i.op)) fun w' => Chg NoB w w') := by
  have HC := Lib.hid ((Chg.refl NoB w).alloc (.cells #[.int .i64 i.op, .int .i64 i.rd, .int .i64 i.rs, .int .i64 i.rt, .int .i64 i.im] 32))
  obtain ⟨k, hk⟩ : ∃ k, kd i.op = k := ⟨_, rfl⟩
  have HK := Lib.hid hk
  unfold jumpB
  rw [hk]
  clear hk
  cases k
  all_goals
    go_enter Try.func63, Try.ntmps63
    go_wp2_with fail
    refine (kind_any _ _).mono ?_
    rintro e w1 ⟨rfl, rfl⟩
    rw [HK.out]
    simp only [Kd.s]
    go_wp2_with fail
    go_ret
    exact ⟨rfl, HC.out⟩

/-- One round over a piece's instruction, and the piece read. -/
structure InsAt (w : World) (p : Option Addr) (cap : Nat) (l : List In) : Prop where
  le : l.length ≤ 100000
  cap : l.length ≤ cap
  spot : 0 < l.length → ∃ g of, p = some ⟨g, of, none⟩ ∧ g < w.heap.size ∧ ∀ j u, (icells l)[j]? = some u → w.cell? ⟨g, of + j, none⟩ = some u
theorem InsAt.of {w : World} {S : Nat → Prop} {v : Value} {l : List In} (h : Sl w S 5 v l.length (icells l)) (hl : l.length ≤ 100000) : ∃ p cap, v = .slice p l.length cap ∧ InsAt w p cap l := by
  obtain ⟨-, p, cap, rfl, hc, hs⟩ := h
  refine ⟨p, cap, rfl, hl, hc, fun h0 => ?_⟩
  obtain ⟨g, of, hp, -, hg, hcell⟩ := hs h0
  exact ⟨g, of, hp, hg, hcell⟩
theorem InsAt.chg0 {w w' : World} {p : Option Addr} {cap : Nat} {l : List In} (h : InsAt w p cap l) (c : Chg NoB w w') : InsAt w' p cap l :=
  ⟨h.le, h.cap, fun h0 => by
    obtain ⟨g, of, hp, hg, hcell⟩ := h.spot h0
    exact ⟨g, of, hp, Nat.lt_of_lt_of_le hg c.size, fun j u hu => c.cell (hcell j u hu) id⟩⟩
/-- Where the instruction at place n stands. -/
theorem InsAt.at {w : World} {p : Option Addr} {cap : Nat} {l : List In} (h : InsAt w p cap l) {n : Nat} {i : In} (hn : l[n]? = some i) : ∃ g of, p = some ⟨g, of, none⟩ ∧ g < w.heap.size ∧
    w.cell? ⟨g, of + n * 5, none⟩ = some (.int .i64 i.op) ∧ w.cell? ⟨g, of + n * 5 + 1, none⟩ = some (.int .i64 i.rd) ∧ w.cell? ⟨g, of + n * 5 + 2, none⟩ = some (.int .i64 i.rs) ∧ w.cell? ⟨g, of + n * 5 + 3, none⟩ = some (.int .i64 i.rt) ∧ w.cell? ⟨g, of + n * 5 + 4, none⟩ = some (.int .i64 i.im) := by
  have hlt := (List.getElem?_eq_some_iff.1 hn).1
  obtain ⟨g, of, hp, hg, hcell⟩ := h.spot (by omega)
  obtain ⟨a0, a1, a2, a3, a4⟩ := icells_at l n i hn
  refine ⟨g, of, hp, hg, hcell _ _ a0, ?_, ?_, ?_, ?_⟩
  · rw [Nat.add_assoc]; exact hcell _ _ a1
  · rw [Nat.add_assoc]; exact hcell _ _ a2
  · rw [Nat.add_assoc]; exact hcell _ _ a3
  · rw [Nat.add_assoc]; exact hcell _ _ a4

theorem okAt_kind {n len : Nat} {i : In} (h : rightB i = false) : okAt n len i = false := by simp [okAt, h]
theorem okAt_plain {n len : Nat} {i : In} (h : rightB i = true) (hj : jumpB i.op = false) : okAt n len i = true := by simp [okAt, h, hj]
theorem okAt_low {n len : Nat} {i : In} (hj : jumpB i.op = true) (h : (n : Int) + i.im < 0) : okAt n len i = false := by
  have : ¬ 0 ≤ (n : Int) + i.im := by omega
  simp [okAt, hj, this]
theorem okAt_high {n len : Nat} {i : In} (hj : jumpB i.op = true) (h : (len : Int) < n + i.im) : okAt n len i = false := by
  have : ¬ (n : Int) + i.im ≤ len := by omega
  simp [okAt, hj, this]
theorem okAt_in {n len : Nat} {i : In} (h : rightB i = true) (h0 : 0 ≤ (n : Int) + i.im) (h1 : (n : Int) + i.im ≤ len) : okAt n len i = true := by simp [okAt, h, h0, h1]


set_option maxHeartbeats 2000000 in
set_option maxRecDepth 100000 in
theorem bright_any (S : Nat → Prop) (v : Value) (l : List In) (w : World) (hs : Sl w S 5 v l.length (icells l)) (hl : l.length ≤ 100000) : Calls Try.prog 17 #[v] w (RetW (.bool (rightP l)) fun w' => Chg NoB w w') := by
  obtain ⟨p, cap, rfl, hI⟩ := InsAt.of hs hl
  have HI := Lib.hid hI
  clear hs hI
  go_enter Try.func17, Try.ntmps17
  go_wp2_with fail
  go_loopg [8] l.length (fun g ix wr => ∃ n : Nat, n + g = l.length ∧ ix = .int .i64 n ∧ (∀ m i, m < n → l[m]? = some i → okAt m l.length i = true) ∧ Chg NoB w wr)
  case atStart => exact ⟨0, by omega, rfl, fun m i hm => by omega, Chg.refl _ _⟩
  case round =>
    obtain ⟨n, hn, rfl, hp, hC⟩ := hrel
    have HP := Lib.hid hp
    have HN := Lib.hid hn
    have hnl : n ≤ l.length := by omega
    clear hp hn
    by_cases hlt : n < l.length
    · obtain ⟨i, hi⟩ : ∃ i, l[n]? = some i := ⟨l[n], by simp [hlt]⟩
      obtain ⟨g, of, rfl, hg, x0, x1, x2, x3, x4⟩ := (HI.out.chg0 hC).at hi
      have hcap := HI.out.cap
      have n0 : (0 : Int) ≤ n := by omega
      have HL := Lib.hid hi
      have HC := Lib.hid hC
      clear hi hC
      have B0 := Lib.hid (Blk.new wr #[.int .i64 i.op, .int .i64 i.rd, .int .i64 i.rs, .int .i64 i.rt, .int .i64 i.im] 32)
      have A0 := Lib.hid ((Chg.refl NoB wr).alloc (.cells #[.int .i64 i.op, .int .i64 i.rd, .int .i64 i.rs, .int .i64 i.rt, .int .i64 i.im] 32))
      go_wp2_with fail
      refine (right_any i _).mono ?_
      rintro e w1 ⟨rfl, C1⟩
      have B1 := Lib.hid (C1.blk0 B0.out)
      have HC1 := Lib.hid (HC.out.step (A0.out.step C1))
      clear x0 x1 x2 x3 x4 C1 B0 A0 HC hg
      cases hr : rightB i
      · have HR := Lib.hid hr
        clear hr
        go_wp2_with fail
        go_ret
        exact ⟨ret_bool (rightP_no HL.out (okAt_kind HR.out)).symm, HC1.out⟩
      · obtain ⟨m0, m1⟩ := rightB_im hr
        have HR := Lib.hid hr
        clear hr
        have x0 := B1.out.cell' (i := 0) (v := .int .i64 i.op) (by rfl)
        have x1 := B1.out.cell' (i := 1) (v := .int .i64 i.rd) (by rfl)
        have x2 := B1.out.cell' (i := 2) (v := .int .i64 i.rs) (by rfl)
        have x3 := B1.out.cell' (i := 3) (v := .int .i64 i.rt) (by rfl)
        have x4 := B1.out.cell' (i := 4) (v := .int .i64 i.im) (by rfl)
        have xl := B1.out.lt
        go_wp2_with fail
        refine (jumps_any i _).mono ?_
        rintro e w2 ⟨rfl, C2⟩
        replace HC1 := Lib.hid (HC1.out.step C2)
        clear x0 x1 x2 x3 x4 xl C2 B1
        cases hj : jumpB i.op
        · have HJ := Lib.hid hj
          clear hj
          go_wp2_with fail
          go_roundg (l.length - (n + 1))
          case measure => have := HN.out; omega
          case rel =>
            refine ⟨n + 1, by have := HN.out; omega, by go_num, fun m i' hm hi' => ?_, HC1.out⟩
            rcases Nat.lt_succ_iff_lt_or_eq.1 hm with h' | rfl
            · exact HP.out m i' h' hi'
            · rw [HL.out] at hi'
              cases hi'
              exact (okAt_plain HR.out HJ.out)
        · have HJ := Lib.hid hj
          clear hj
          by_cases hlo : (n : Int) + i.im < 0
          · have t0 : decide ((n : Int) + i.im < 0) = true := by simp; omega
            have HLO := Lib.hid hlo
            clear hlo
            go_wp2_with fail
            go_ret
            exact ⟨ret_bool (rightP_no HL.out (okAt_low HJ.out HLO.out)).symm, HC1.out⟩
          · have t0 : decide ((n : Int) + i.im < 0) = false := by simp; omega
            by_cases hhi : (l.length : Int) < n + i.im
            · have t1 : decide ((l.length : Int) < n + i.im) = true := by simp; omega
              have HHI := Lib.hid hhi
              clear hlo hhi
              go_wp2_with fail
              go_ret
              exact ⟨ret_bool (rightP_no HL.out (okAt_high HJ.out HHI.out)).symm, HC1.out⟩
            · have t1 : decide ((l.length : Int) < n + i.im) = false := by simp; omega
              have HLO := Lib.hid hlo
              have HHI := Lib.hid hhi
              clear hlo hhi
              go_wp2_with fail
              go_roundg (l.length - (n + 1))
              case measure => have := HN.out; omega
              case rel =>
                refine ⟨n + 1, by have := HN.out; omega, by go_num, fun m i' hm hi' => ?_, HC1.out⟩
                rcases Nat.lt_succ_iff_lt_or_eq.1 hm with h' | rfl
                · exact HP.out m i' h' hi'
                · rw [HL.out] at hi'
                  cases hi'
                  exact (okAt_in HR.out (by have := HLO.out; omega) (by have := HHI.out; omega))
    · obtain rfl : n = l.length := by omega
      go_wp2_with fail
      go_ret
      exact ⟨ret_bool (rightP_iff.2 fun m i hi => HP.out m i (List.getElem?_eq_some_iff.1 hi).1 hi).symm, hC⟩
set_option maxHeartbeats 2000000 in
set_option maxRecDepth 100000 in
theorem rright39_any (S : Nat → Prop) (v : Value) (l : List In) (w : World) (hs : Sl w S 5 v l.length (icells l)) (hl : l.length ≤ 100000) : Calls Try.prog 16 #[v] w (RetW (.bool (rightP l)) fun w' => Chg NoB w w') := by
  obtain ⟨p, cap, rfl, hI⟩ := InsAt.of hs hl
  have HI := Lib.hid hI
  clear hs hI
  go_enter Try.func16, Try.ntmps16
  go_wp2_with fail
  go_loopg [8] l.length (fun g ix wr => ∃ n : Nat, n + g = l.length ∧ ix = .int .i64 n ∧ (∀ m i, m < n → l[m]? = some i → okAt m l.length i = true) ∧ Chg NoB w wr)
  case atStart => exact ⟨0, by omega, rfl, fun m i hm => by omega, Chg.refl _ _⟩
  case round =>
    obtain ⟨n, hn, rfl, hp, hC⟩ := hrel
    have HP := Lib.hid hp
    have HN := Lib.hid hn
    have hnl : n ≤ l.length := by omega
    clear hp hn
    by_cases hlt : n < l.length
    · obtain ⟨i, hi⟩ : ∃ i, l[n]? = some i := ⟨l[n], by simp [hlt]⟩
      obtain ⟨g, of, rfl, hg, x0, x1, x2, x3, x4⟩ := (HI.out.chg0 hC).at hi
      have hcap := HI.out.cap
      have n0 : (0 : Int) ≤ n := by omega
      have HL := Lib.hid hi
      have HC := Lib.hid hC
      clear hi hC
      have B0 := Lib.hid (Blk.new wr #[.int .i64 i.op, .int .i64 i.rd, .int .i64 i.rs, .int .i64 i.rt, .int .i64 i.im] 32)
      have A0 := Lib.hid ((Chg.refl NoB wr).alloc (.cells #[.int .i64 i.op, .int .i64 i.rd, .int .i64 i.rs, .int .i64 i.rt, .int .i64 i.im] 32))
      go_wp2_with fail
      refine (rright_any i _).mono ?_
      rintro e w1 ⟨rfl, C1⟩
      have B1 := Lib.hid (C1.blk0 B0.out)
      have HC1 := Lib.hid (HC.out.step (A0.out.step C1))
      clear x0 x1 x2 x3 x4 C1 B0 A0 HC hg
      cases hr : rightB i
      · have HR := Lib.hid hr
        clear hr
        go_wp2_with fail
        go_ret
        exact ⟨ret_bool (rightP_no HL.out (okAt_kind HR.out)).symm, HC1.out⟩
      · obtain ⟨m0, m1⟩ := rightB_im hr
        have HR := Lib.hid hr
        clear hr
        have x0 := B1.out.cell' (i := 0) (v := .int .i64 i.op) (by rfl)
        have x1 := B1.out.cell' (i := 1) (v := .int .i64 i.rd) (by rfl)
        have x2 := B1.out.cell' (i := 2) (v := .int .i64 i.rs) (by rfl)
        have x3 := B1.out.cell' (i := 3) (v := .int .i64 i.rt) (by rfl)
        have x4 := B1.out.cell' (i := 4) (v := .int .i64 i.im) (by rfl)
        have xl := B1.out.lt
        go_wp2_with fail
        refine (rkind_any i _).mono ?_
        rintro e w2 ⟨rfl, C2⟩
        replace HC1 := Lib.hid (HC1.out.step C2)
        replace B1 := Lib.hid (C2.blk0 B1.out)
        clear x0 x1 x2 x3 x4 xl C2
        have x0 := B1.out.cell' (i := 0) (v := .int .i64 i.op) (by rfl)
        have x1 := B1.out.cell' (i := 1) (v := .int .i64 i.rd) (by rfl)
        have x2 := B1.out.cell' (i := 2) (v := .int .i64 i.rs) (by rfl)
        have x3 := B1.out.cell' (i := 3) (v := .int .i64 i.rt) (by rfl)
        have x4 := B1.out.cell' (i := 4) (v := .int .i64 i.im) (by rfl)
        have xl := B1.out.lt
        clear x0 x1 x2 x3
        have kB := ks_B (kd i.op)
        have kJ := ks_J (kd i.op)
        generalize hb1 : decide (kd i.op = .B) = b1 at kB
        generalize hb2 : decide (kd i.op = .J) = b2 at kJ
        have HJ := Lib.hid (show jumpB i.op = (b1 || b2) by unfold jumpB; rw [hb1, hb2])
        clear hb1 hb2
        rcases b1 with _ | _
        · rcases b2 with _ | _
          ·
            go_wp2_with fail
            go_roundg (l.length - (n + 1))
            case measure => have := HN.out; omega
            case rel =>
              refine ⟨n + 1, by have := HN.out; omega, by go_num, fun m i' hm hi' => ?_, HC1.out⟩
              rcases Nat.lt_succ_iff_lt_or_eq.1 hm with h' | rfl
              · exact HP.out m i' h' hi'
              · rw [HL.out] at hi'
                cases hi'
                exact (okAt_plain HR.out HJ.out)
          ·
            by_cases hlo : (n : Int) + i.im < 0
            · have t0 : decide ((n : Int) + i.im < 0) = true := by simp; omega
              have HLO := Lib.hid hlo
              clear hlo
              go_wp2_with fail
              go_ret
              exact ⟨ret_bool (rightP_no HL.out (okAt_low HJ.out HLO.out)).symm, HC1.out⟩
            · have t0 : decide ((n : Int) + i.im < 0) = false := by simp; omega
              by_cases hhi : (l.length : Int) < n + i.im
              · have t1 : decide ((l.length : Int) < n + i.im) = true := by simp; omega
                have HHI := Lib.hid hhi
                clear hlo hhi
                go_wp2_with fail
                go_ret
                exact ⟨ret_bool (rightP_no HL.out (okAt_high HJ.out HHI.out)).symm, HC1.out⟩
              · have t1 : decide ((l.length : Int) < n + i.im) = false := by simp; omega
                have HLO := Lib.hid hlo
                have HHI := Lib.hid hhi
                clear hlo hhi
                go_wp2_with fail
                go_roundg (l.length - (n + 1))
                case measure => have := HN.out; omega
                case rel =>
                  refine ⟨n + 1, by have := HN.out; omega, by go_num, fun m i' hm hi' => ?_, HC1.out⟩
                  rcases Nat.lt_succ_iff_lt_or_eq.1 hm with h' | rfl
                  · exact HP.out m i' h' hi'
                  · rw [HL.out] at hi'
                    cases hi'
                    exact (okAt_in HR.out (by have := HLO.out; omega) (by have := HHI.out; omega))
        · rcases b2 with _ | _
          all_goals
            by_cases hlo : (n : Int) + i.im < 0
            · have t0 : decide ((n : Int) + i.im < 0) = true := by simp; omega
              have HLO := Lib.hid hlo
              clear hlo
              go_wp2_with fail
              go_ret
              exact ⟨ret_bool (rightP_no HL.out (okAt_low HJ.out HLO.out)).symm, HC1.out⟩
            · have t0 : decide ((n : Int) + i.im < 0) = false := by simp; omega
              by_cases hhi : (l.length : Int) < n + i.im
              · have t1 : decide ((l.length : Int) < n + i.im) = true := by simp; omega
                have HHI := Lib.hid hhi
                clear hlo hhi
                go_wp2_with fail
                go_ret
                exact ⟨ret_bool (rightP_no HL.out (okAt_high HJ.out HHI.out)).symm, HC1.out⟩
              · have t1 : decide ((l.length : Int) < n + i.im) = false := by simp; omega
                have HLO := Lib.hid hlo
                have HHI := Lib.hid hhi
                clear hlo hhi
                go_wp2_with fail
                go_roundg (l.length - (n + 1))
                case measure => have := HN.out; omega
                case rel =>
                  refine ⟨n + 1, by have := HN.out; omega, by go_num, fun m i' hm hi' => ?_, HC1.out⟩
                  rcases Nat.lt_succ_iff_lt_or_eq.1 hm with h' | rfl
                  · exact HP.out m i' h' hi'
                  · rw [HL.out] at hi'
                    cases hi'
                    exact (okAt_in HR.out (by have := HLO.out; omega) (by have := HHI.out; omega))
    · obtain rfl : n = l.length := by omega
      go_wp2_with fail
      go_ret
      exact ⟨ret_bool (rightP_iff.2 fun m i hi => HP.out m i (List.getElem?_eq_some_iff.1 hi).1 hi).symm, hC⟩
end Go.Proofs.Ytdkplhdinklflaa
