/- Where a program may go: the small calls, and what may follow by the reference. No condition. -/
import Derived.Test.YtdkplhdinklflaaBuild2
set_option linter.unusedVariables false
namespace Go.Proofs.Ytdkplhdinklflaa
open Go.RowKit Go.RR

/-- Programs that are asked: few instructions, all right. -/
def askB (l : List In) : Bool := decide (l.length ≤ 40) && l.all rightB
theorem askB_in {l : List In} (h : askB l = true) : l.length ≤ 40 ∧ ∀ i ∈ l, rightB i = true := by
  unfold askB at h
  rw [Bool.and_eq_true, List.all_eq_true] at h
  exact ⟨of_decide_eq_true h.1, h.2⟩

set_option maxHeartbeats 2000000 in
set_option maxRecDepth 100000 in
theorem right31_any (S : Nat → Prop) (v : Value) (l : List In) (w : World) (hs : Sl w S 5 v l.length (icells l)) (hl : l.length ≤ 9223372036854775807) : Calls Try.prog 34 #[v] w (RetW (.bool (askB l)) fun w' => Chg NoB w w') := by
  by_cases h40 : l.length ≤ 40
  · have t0 : decide ((40 : Int) < l.length) = false := by simp; omega
    have t0' : decide (40 < l.length) = false := by simp; omega
    obtain ⟨p, cap, rfl, hI⟩ := InsAt.of hs (by omega)
    have HI := Lib.hid hI
    have H40 := Lib.hid h40
    clear hs hI h40
    go_enter Try.func34, Try.ntmps34
    go_wp2_with fail
    go_loopg [10] l.length (fun g ix wr => ∃ n : Nat, n + g = l.length ∧ ix = .int .i64 n ∧ (∀ i ∈ l.take n, rightB i = true) ∧ Chg NoB w wr)
    case atStart => exact ⟨0, by omega, rfl, by simp, Chg.refl _ _⟩
    case round =>
      obtain ⟨n, hn, rfl, hp, hC⟩ := hrel
      have HP := Lib.hid hp
      have HN := Lib.hid hn
      have hnl : n ≤ l.length := by omega
      clear hp hn
      by_cases hlt : n < l.length
      · obtain ⟨i, hi⟩ : ∃ i, l[n]? = some i := ⟨l[n], by simp [hlt]⟩
        obtain ⟨g, of, rfl, hg, x0, x1, x2, x3, x4⟩ := (HI.out.chg0 hC).at hi
        have hcap := HI.out.cap
        have n0 : (0 : Int) ≤ n := by omega
        have HL := Lib.hid hi
        have HC := Lib.hid hC
        clear hi hC
        have A0 := Lib.hid ((Chg.refl NoB wr).alloc (.cells #[.int .i64 i.op, .int .i64 i.rd, .int .i64 i.rs, .int .i64 i.rt, .int .i64 i.im] 32))
        go_wp2_with fail
        refine (rright_any i _).mono ?_
        rintro e w1 ⟨rfl, C1⟩
        have HC1 := Lib.hid (HC.out.step (A0.out.step C1))
        clear x0 x1 x2 x3 x4 C1 A0 HC hg
        cases hr : rightB i
        · have HR := Lib.hid hr
          clear hr
          go_wp2_with fail
          go_ret
          exact ⟨ret_bool (by
            unfold askB
            have : l.all rightB = false := by rw [List.all_eq_false]; exact ⟨i, List.mem_of_getElem? HL.out, by simp [HR.out]⟩
            simp [this]), HC1.out⟩
        · have HR := Lib.hid hr
          clear hr
          go_wp2_with fail
          go_roundg (l.length - (n + 1))
          case measure => have := HN.out; omega
          case rel =>
            refine ⟨n + 1, by have := HN.out; omega, by go_num, fun j hj => ?_, HC1.out⟩
            rw [List.take_add_one, HL.out] at hj
            rcases List.mem_append.1 hj with h | h
            · exact HP.out j h
            · simp at h; subst h; exact HR.out
      · obtain rfl : n = l.length := by omega
        go_wp2_with fail
        go_ret
        exact ⟨ret_bool (by
          unfold askB
          have := HP.out
          rw [List.take_length] at this
          rw [List.all_eq_true.2 this]
          simp [H40.out]), hC⟩
  · have t0 : decide ((40 : Int) < l.length) = true := by simp; omega
    have t0' : decide (40 < l.length) = true := by simp; omega
    obtain ⟨p, cap, rfl⟩ := hs.form
    have H40 := Lib.hid h40
    clear hs h40
    go_enter Try.func34, Try.ntmps34
    go_wp2_with fail
    go_ret
    exact ⟨ret_bool (by unfold askB; simp [H40.out]), Chg.refl _ _⟩

/-- A place, the end for all that is without. -/
def endF (n : Nat) (x : Int) : Int := if x < 0 ∨ (n : Int) < x then n else x
theorem end_any (p : Option Addr) (n cap : Nat) (x : Int) (w : World) (hn : n ≤ 100000) : Calls Try.prog 76 #[.slice p n cap, .int .i64 x] w fun e w' => e = .returned (.int .i64 (endF n x)) ∧ w = w' := by
  by_cases h1 : x < 0
  · have e : endF n x = n := by unfold endF; rw [if_pos (.inl h1)]
    have t1 : decide (x < 0) = true := by simp; omega
    rw [e]
    clear e h1
    go_enter Try.func76, Try.ntmps76
    go_wp2
    go_ret
    exact ⟨rfl, rfl⟩
  · have t1 : decide (x < 0) = false := by simp; omega
    by_cases h2 : (n : Int) < x
    · have e : endF n x = n := by unfold endF; rw [if_pos (.inr h2)]
      have t2 : decide ((n : Int) < x) = true := by simp; omega
      rw [e]
      clear e h1 h2
      go_enter Try.func76, Try.ntmps76
      go_wp2
      go_ret
      exact ⟨rfl, rfl⟩
    · have e : endF n x = x := by unfold endF; rw [if_neg (by omega)]
      have t2 : decide ((n : Int) < x) = false := by simp; omega
      rw [e]
      clear e h1 h2
      go_enter Try.func76, Try.ntmps76
      go_wp2
      go_ret
      exact ⟨rfl, rfl⟩

/-- A slice that reads as integers. -/
def IAt (w : World) (v : Value) (l : List Int) : Prop := ∃ S : Nat → Prop, Sl w S 1 v l.length (l.map (Value.int .i64))
theorem IAt.chg0 {w w' : World} {v : Value} {l : List Int} (h : IAt w v l) (c : Chg NoB w w') : IAt w' v l := by obtain ⟨S, hS⟩ := h; exact ⟨S, hS.chg0 c⟩
theorem IAt.form {w : World} {v : Value} {l : List Int} (h : IAt w v l) : ∃ p c, v = .slice p l.length c := by obtain ⟨S, hS⟩ := h; exact hS.form
theorem IAt.nil (w : World) : IAt w (.slice none 0 0) [] := ⟨NoB, Sl.nil _ _ _⟩
theorem IAt.fresh (w : World) (l : List Int) : IAt (w.alloc (.cells (l.map (Value.int .i64)).toArray 3)) (.slice (some ⟨w.heap.size, 0, none⟩) l.length l.length) l := ⟨_, Sl.fresh w (l.map (Value.int .i64)) 3 l.length (by simp)⟩
/-- The same, in blocks from B on. -/
def IAtN (B : Nat) (w : World) (v : Value) (l : List Int) : Prop := Sl w (fun k => B ≤ k) 1 v l.length (l.map (Value.int .i64))
theorem IAtN.ints {B : Nat} {w : World} {v : Value} {l : List Int} (h : IAtN B w v l) : IAt w v l := ⟨_, h⟩
theorem IAtN.nil (B : Nat) (w : World) : IAtN B w (.slice none 0 0) [] := Sl.nil _ _ _
theorem IAtN.fresh {B : Nat} {w : World} (h : B ≤ w.heap.size) (l : List Int) : IAtN B (w.alloc (.cells (l.map (Value.int .i64)).toArray 3)) (.slice (some ⟨w.heap.size, 0, none⟩) l.length l.length) l :=
  (Sl.fresh w (l.map (Value.int .i64)) 3 l.length (by simp)).mono fun k hk => by rw [hk]; exact h
/-- The place of number n. -/
theorem IAt.spot {w : World} {p : Option Addr} {n c : Nat} {l : List Int} (h : IAt w (.slice p n c) l) {k : Nat} {x : Int} (hk : l[k]? = some x) : n = l.length ∧ n ≤ c ∧ ∃ g of, p = some ⟨g, of, none⟩ ∧ g < w.heap.size ∧ w.cell? ⟨g, of + k, none⟩ = some (.int .i64 x) := by
  obtain ⟨S, -, p', c', e, hc, hs⟩ := h
  cases e
  obtain ⟨g, of, hp, -, hg, hcell⟩ := hs (by have := (List.getElem?_eq_some_iff.1 hk).1; omega)
  exact ⟨rfl, hc, g, of, hp, hg, hcell k _ (by rw [List.getElem?_map, hk]; rfl)⟩

set_option maxHeartbeats 2000000 in
set_option maxRecDepth 100000 in
theorem ints_any (v v' : Value) (l m : List Int) (w : World) (hs : IAt w v l) (hm : IAt w v' m) (hl : l.length ≤ 100000) (hk : m.length ≤ 100000) : Calls Try.prog 35 #[v, v'] w (RetW (.bool (decide (l = m))) fun w' => Chg NoB w w') := by
  obtain ⟨p, cap, rfl⟩ := hs.form
  obtain ⟨q, caq, rfl⟩ := hm.form
  have HI := Lib.hid hs
  have HJ := Lib.hid hm
  clear hs hm
  by_cases he : l.length = m.length
  · have t0 : (l.length != m.length) = false := by simp [he]
    have t1 : ((l.length : Int) != (m.length : Int)) = false := by simp [he]
    have HE := Lib.hid he
    clear he
    go_enter Try.func35, Try.ntmps35
    go_wp2_with fail
    go_loopg [13] l.length (fun g ix wr => ∃ n : Nat, n + g = l.length ∧ ix = .int .i64 n ∧ l.take n = m.take n ∧ Chg NoB w wr)
    case atStart => exact ⟨0, by omega, rfl, rfl, Chg.refl _ _⟩
    case round =>
      obtain ⟨n, hn, rfl, hp, hC⟩ := hrel
      have HP := Lib.hid hp
      have HN := Lib.hid hn
      have hnl : n ≤ l.length := by omega
      clear hp hn
      by_cases hlt : n < l.length
      · obtain ⟨i, hi⟩ : ∃ i, l[n]? = some i := ⟨l[n], by simp [hlt]⟩
        have hlt2 : n < m.length := by have := HE.out; omega
        obtain ⟨j, hj⟩ : ∃ j, m[n]? = some j := ⟨m[n], by simp [hlt2]⟩
        obtain ⟨-, hcap, g, of, rfl, hg, x0⟩ := (HI.out.chg0 hC).spot hi
        obtain ⟨-, hcaq, g', of', rfl, hg', y0⟩ := (HJ.out.chg0 hC).spot hj
        have n0 : (0 : Int) ≤ n := by omega
        have HL := Lib.hid hi
        have HM := Lib.hid hj
        have HC := Lib.hid hC
        clear hi hj hC
        by_cases hij : i = j
        · have k1 : (i != j) = false := by simp [hij]
          have HB := Lib.hid hij
          clear hij
          go_wp2_with fail
          go_quiet (fail)
          go_wp2_with fail
          go_roundg (l.length - (n + 1))
          case measure => have := HN.out; omega
          case rel => exact ⟨n + 1, by have := HN.out; omega, by go_num, by rw [List.take_add_one, List.take_add_one, HP.out, HL.out, HM.out, HB.out], HC.out.drewN _⟩
        · have k1 : (i != j) = true := by simp [hij]
          have HB := Lib.hid hij
          clear hij
          go_wp2_with fail
          go_quiet (fail)
          go_wp2_with fail
          go_ret
          refine ⟨ret_bool ?_, HC.out.drewN _⟩
          symm
          rw [decide_eq_false_iff_not]
          intro e
          have := HL.out
          rw [e, HM.out] at this
          exact HB.out (Option.some.inj this).symm
      · obtain rfl : n = l.length := by omega
        go_wp2_with fail
        go_ret
        exact ⟨ret_bool (by have h := HP.out; rw [List.take_length, HE.out, List.take_length] at h; simp [h]), hC⟩
  · have t0 : (l.length != m.length) = true := by simp [he]
    have t1 : ((l.length : Int) != (m.length : Int)) = true := by simp; omega
    have HE := Lib.hid he
    clear he
    go_enter Try.func35, Try.ntmps35
    go_wp2_with fail
    go_ret
    exact ⟨ret_bool (by symm; simp; intro e; exact HE.out (by rw [e])), Chg.refl _ _⟩
end Go.Proofs.Ytdkplhdinklflaa
