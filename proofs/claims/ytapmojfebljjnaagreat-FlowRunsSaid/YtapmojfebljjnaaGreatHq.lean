/- Pieces of programs: right ones, alike ones, small tests. No condition. Pieces of programs: small tests, Lock, Unlock, Move, joined pieces. No condition. Pieces of programs: alike ones, joined ones. No condition. Pieces of programs: joined ones. No condition. Pieces of programs: joined ones by the reference; locks. No condition. Pieces of programs: constants. No condition. Pieces of programs: constants by the reference. No condition. Pieces of programs: Times, While, If. No condition. Pieces of programs: While, If. No condition. Pieces of programs: Within, and the registers that they use. No condition. Pieces of programs: the registers that they use. No condition. The registers that pieces use, by the reference. No condition. Where a program may go: the small calls, and what may follow by the reference. No condition. What may follow, by the reference. No condition. Which registers are read and written, by the program. No condition. -/
import Derived.Test.YtapmojfebljjnaaGreatHd
import Derived.Lib.AppendZerosOnto
import Derived.Laws.Bits64b
import Derived.Laws.BitsLemmas
set_option linter.unusedVariables false
namespace Go.Proofs.YtapmojfebljjnaaGreat
open Go.RowKit Go.RR












def jumpB (o : Int) : Bool := decide (kd o = .B) || decide (kd o = .J)
theorem rightB_im {i : In} (h : rightB i = true) : -2048 ≤ i.im ∧ i.im ≤ 2047 := by
  unfold rightB at h
  simp only [Bool.and_eq_true, decide_eq_true_eq] at h
  exact ⟨h.1.1.1.1.1.2, h.1.1.1.1.2⟩

theorem ks_B (k : Kd) : (k.s.toList == [66]) = decide (k = .B) := by cases k <;> decide +kernel
theorem ks_J (k : Kd) : (k.s.toList == [74]) = decide (k = .J) := by cases k <;> decide +kernel

end Go.Proofs.YtapmojfebljjnaaGreat
set_option linter.unusedVariables false
namespace Go.Proofs.YtapmojfebljjnaaGreat
open Go.RowKit Go.RR


















def ownB (n : Int) : Bool := decide (0 < n) && decide (n < 16)
/-- A piece that a call has made. -/
def IsNew (w w' : World) (v : Value) (l : List In) : Prop := Own w' (fun k => w.heap.size ≤ k) 41 5 v l.length (icells l) ∧ Chg NoB w w'
theorem IsNew.nil (w : World) : IsNew w w (.slice none 0 0) [] := ⟨Own.nil _ _ _ _, Chg.refl _ _⟩
theorem IsNew.fresh (w : World) (l : List In) (cs : List Value) (hc : icells l = cs) (n : Nat) (hn : l.length = n) (h : n ≤ 1000) : IsNew w (w.alloc (.cells cs.toArray 41)) (.slice (some ⟨w.heap.size, 0, none⟩) n n) l := by
  subst hc hn
  exact ⟨(Own.fresh w (icells l) 41 l.length (icells_len l) (by unfold maxLen; omega)).mono fun k hk => by omega, (Chg.refl _ _).alloc _⟩
theorem IsNew.from {w w1 w2 : World} {v : Value} {l : List In} (h : IsNew w1 w2 v l) (c : Chg NoB w w1) : IsNew w w2 v l := ⟨h.1.mono fun k hk => Nat.le_trans c.size hk, c.step h.2⟩
theorem IsNew.then0 {w w1 w2 : World} {v : Value} {l : List In} (h : IsNew w w1 v l) (c : Chg NoB w1 w2) : IsNew w w2 v l := ⟨h.1.chg0 c, h.2.step c⟩

end Go.Proofs.YtapmojfebljjnaaGreat
set_option linter.unusedVariables false
namespace Go.Proofs.YtapmojfebljjnaaGreat
open Go.RowKit Go.RR












end Go.Proofs.YtapmojfebljjnaaGreat
set_option linter.unusedVariables false
namespace Go.Proofs.YtapmojfebljjnaaGreat
open Go.RowKit Go.RR










/-- Slices of instructions, one behind another. -/
def PRows (w : World) (vs : List Value) (ls : List (List In)) : Prop := vs.length = ls.length ∧ ∀ (n : Nat) (x : Value) (l : List In), vs[n]? = some x → ls[n]? = some l → ∃ S : Nat → Prop, Sl w S 5 x l.length (icells l)
theorem PRows.chg0 {w w' : World} {vs : List Value} {ls : List (List In)} (h : PRows w vs ls) (c : Chg NoB w w') : PRows w' vs ls :=
  ⟨h.1, fun n x l h1 h2 => by obtain ⟨S, hS⟩ := h.2 n x l h1 h2; exact ⟨S, hS.chg0 c⟩⟩
theorem PRows.nil (w : World) : PRows w [] [] := ⟨rfl, fun n x l h => by simp at h⟩
theorem PRows.cons {w : World} {v : Value} {l : List In} {vs : List Value} {ls : List (List In)} {S : Nat → Prop} (h : Sl w S 5 v l.length (icells l)) (r : PRows w vs ls) : PRows w (v :: vs) (l :: ls) :=
  ⟨by simp [r.1], fun n x m h1 h2 => by
    cases n with
    | zero => simp at h1 h2; subst h1 h2; exact ⟨S, h⟩
    | succ n => exact r.2 n x m (by simpa using h1) (by simpa using h2)⟩
end Go.Proofs.YtapmojfebljjnaaGreat
set_option linter.unusedVariables false
namespace Go.Proofs.YtapmojfebljjnaaGreat
open Go.RowKit Go.RR











theorem ownB_no {n : Int} (h : n < 1 ∨ 15 < n) : ownB n = false := by unfold ownB; simp; omega
theorem ownB_yes {n : Int} (h : 1 ≤ n) (h2 : n ≤ 15) : ownB n = true := by unfold ownB; simp; omega
theorem ownB_in {n : Int} (h : ownB n = true) : 1 ≤ n ∧ n ≤ 15 := by unfold ownB at h; simp at h; omega
end Go.Proofs.YtapmojfebljjnaaGreat
set_option linter.unusedVariables false
namespace Go.Proofs.YtapmojfebljjnaaGreat
open Go.RowKit Go.RR




end Go.Proofs.YtapmojfebljjnaaGreat
set_option linter.unusedVariables false
namespace Go.Proofs.YtapmojfebljjnaaGreat
open Go.RowKit Go.RR




end Go.Proofs.YtapmojfebljjnaaGreat
set_option linter.unusedVariables false
namespace Go.Proofs.YtapmojfebljjnaaGreat
open Go.RowKit Go.RR


/-- A slice that reads as a piece. -/
def PAt (w : World) (v : Value) (l : List In) : Prop := ∃ S : Nat → Prop, Sl w S 5 v l.length (icells l)
theorem PAt.chg0 {w w' : World} {v : Value} {l : List In} (h : PAt w v l) (c : Chg NoB w w') : PAt w' v l := by obtain ⟨S, hS⟩ := h; exact ⟨S, hS.chg0 c⟩
theorem PAt.form {w : World} {v : Value} {l : List In} (h : PAt w v l) : ∃ p c, v = .slice p l.length c := by obtain ⟨S, hS⟩ := h; exact hS.form
theorem IsNew.at {w0 w : World} {v : Value} {l : List In} (h : IsNew w0 w v l) : PAt w v l := ⟨_, h.1.sl⟩
theorem PAt.rows {w : World} {v : Value} {l : List In} {vs : List Value} {ls : List (List In)} (h : PAt w v l) (r : PRows w vs ls) : PRows w (v :: vs) (l :: ls) := by obtain ⟨S, hS⟩ := h; exact PRows.cons hS r





end Go.Proofs.YtapmojfebljjnaaGreat
set_option linter.unusedVariables false
namespace Go.Proofs.YtapmojfebljjnaaGreat
open Go.RowKit Go.RR





end Go.Proofs.YtapmojfebljjnaaGreat
set_option linter.unusedVariables false
namespace Go.Proofs.YtapmojfebljjnaaGreat
open Go.RowKit Go.RR




end Go.Proofs.YtapmojfebljjnaaGreat
set_option linter.unusedVariables false
namespace Go.Proofs.YtapmojfebljjnaaGreat
open Go.RowKit Go.RR



def bitR (n : Int) : Nat := if ownB n = true then 2 ^ n.toNat else 0
def orL (l : List Int) (a : Nat) : Nat := l.foldl (fun a r => a ||| bitR r) a
theorem bitR_lt (n : Int) : bitR n < 65536 := by
  unfold bitR
  split
  · rename_i h
    have := ownB_in h
    have h2 : (2 : Nat) ^ n.toNat < 2 ^ 16 := Nat.pow_lt_pow_right (by omega) (by omega)
    exact h2
  · omega
theorem or_lt16 {a b : Nat} (ha : a < 65536) (hb : b < 65536) : a ||| b < 65536 := Nat.or_lt_two_pow (n := 16) ha hb
theorem orL_lt : ∀ (l : List Int) (a : Nat), a < 65536 → orL l a < 65536
  | [], a, h => h
  | r :: l, a, h => orL_lt l _ (or_lt16 h (bitR_lt r))
theorem orL_snoc (l : List Int) (r : Int) (a : Nat) : orL (l ++ [r]) a = orL l a ||| bitR r := by unfold orL; rw [List.foldl_append]; rfl
theorem orL_skip {l : List Int} {r : Int} {a : Nat} (h : ownB r = false) : orL (l ++ [r]) a = orL l a := by rw [orL_snoc]; unfold bitR; rw [if_neg (by simp [h]), Nat.or_zero]
theorem bits_or16 (a b : Nat) (ha : a < 65536) (hb : b < 65536) : bits .or .u16 (a : Int) (b : Int) = ((a ||| b : Nat) : Int) :=
  (bits_nat .u16 16 (by decide) (fun m h0 h1 => by rw [IntKind.wrap_u16]; omega) a b ha hb).2

theorem or_bit39 (a : Nat) (r : Int) (ha : a < 65536) (h : ownB r = true) : bits .or .u16 (a : Int) (IntKind.u16.wrap (2 ^ r.toNat)) = ((a ||| bitR r : Nat) : Int) := by
  have hb := bitR_lt r
  have e : IntKind.u16.wrap (2 ^ r.toNat) = ((bitR r : Nat) : Int) := by
    unfold bitR at hb ⊢
    rw [if_pos h] at hb ⊢
    rw [IntKind.wrap_u16]
    have e : ((2 ^ r.toNat : Nat) : Int) = (2 : Int) ^ r.toNat := by simp
    rw [← e]
    generalize 2 ^ r.toNat = x at *
    omega
  rw [e, bits_or16 a _ ha hb]
end Go.Proofs.YtapmojfebljjnaaGreat
set_option linter.unusedVariables false
set_option linter.unusedSimpArgs false
namespace Go.Proofs.YtapmojfebljjnaaGreat
open Go.RowKit Go.RR





def readsF (i : In) : Nat := (if (kd i.op).q then bitR i.rs else 0) ||| (if (kd i.op).t then bitR i.rt else 0)
def writesF (i : In) : Nat := if (kd i.op).d then bitR i.rd else 0
theorem readsF_lt (i : In) : readsF i < 65536 := by
  unfold readsF
  refine or_lt16 ?_ ?_
  · split
    · exact bitR_lt _
    · omega
  · split
    · exact bitR_lt _
    · omega
theorem writesF_lt (i : In) : writesF i < 65536 := by
  unfold writesF
  split
  · exact bitR_lt _
  · omega
end Go.Proofs.YtapmojfebljjnaaGreat
set_option linter.unusedVariables false
namespace Go.Proofs.YtapmojfebljjnaaGreat
open Go.RowKit Go.RR


/-- Programs that are asked: few instructions, all right. -/
def askB (l : List In) : Bool := decide (l.length ≤ 40) && l.all rightB
theorem askB_in {l : List In} (h : askB l = true) : l.length ≤ 40 ∧ ∀ i ∈ l, rightB i = true := by
  unfold askB at h
  rw [Bool.and_eq_true, List.all_eq_true] at h
  exact ⟨of_decide_eq_true h.1, h.2⟩

set_option maxHeartbeats 2000000 in
set_option maxRecDepth 100000 in
theorem right31_any (S : Nat → Prop) (v : Value) (l : List In) (w : World) (hs : Sl w S 5 v l.length (icells l)) (hl : l.length ≤ 9223372036854775807) : Calls Tryz.prog 5 #[v] w (RetW (.bool (askB l)) fun w' => Chg NoB w w') := by
  by_cases h40 : l.length ≤ 40
  · have t0 : decide ((40 : Int) < l.length) = false := by simp; omega
    have t0' : decide (40 < l.length) = false := by simp; omega
    obtain ⟨p, cap, rfl, hI⟩ := InsAt.of hs (by omega)
    have HI := Lib.hid hI
    have H40 := Lib.hid h40
    clear hs hI h40
    go_enter Tryz.func5, Tryz.ntmps5
    go_wp2_with fail
    go_loopg [10] l.length (fun g ix wr => ∃ n : Nat, n + g = l.length ∧ ix = .int .i64 n ∧ (∀ i ∈ l.take n, rightB i = true) ∧ Chg NoB w wr)
    case atStart => exact ⟨0, by omega, rfl, by simp, Chg.refl _ _⟩
    case round =>
      obtain ⟨n, hn, rfl, hp, hC⟩ := hrel
      have HP := Lib.hid hp
      have HN := Lib.hid hn
      have hnl : n ≤ l.length := by omega
      clear hp hn
      by_cases hlt : n < l.length
      · obtain ⟨i, hi⟩ : ∃ i, l[n]? = some i := ⟨l[n], by simp [hlt]⟩
        obtain ⟨g, of, rfl, hg, x0, x1, x2, x3, x4⟩ := (HI.out.chg0 hC).at hi
        have hcap := HI.out.cap
        have n0 : (0 : Int) ≤ n := by omega
        have HL := Lib.hid hi
        have HC := Lib.hid hC
        clear hi hC
        have A0 := Lib.hid ((Chg.refl NoB wr).alloc (.cells #[.int .i64 i.op, .int .i64 i.rd, .int .i64 i.rs, .int .i64 i.rt, .int .i64 i.im] 41))
        go_wp2_with fail
        refine (rright_any i _).mono ?_
        rintro e w1 ⟨rfl, C1⟩
        have HC1 := Lib.hid (HC.out.step (A0.out.step C1))
        clear x0 x1 x2 x3 x4 C1 A0 HC hg
        cases hr : rightB i
        · have HR := Lib.hid hr
          clear hr
          go_wp2_with fail
          go_ret
          exact ⟨ret_bool (by
            unfold askB
            have : l.all rightB = false := by rw [List.all_eq_false]; exact ⟨i, List.mem_of_getElem? HL.out, by simp [HR.out]⟩
            simp [this]), HC1.out⟩
        · have HR := Lib.hid hr
          clear hr
          go_wp2_with fail
          go_roundg (l.length - (n + 1))
          case measure => have := HN.out; omega
          case rel =>
            refine ⟨n + 1, by have := HN.out; omega, by go_num, fun j hj => ?_, HC1.out⟩
            rw [List.take_add_one, HL.out] at hj
            rcases List.mem_append.1 hj with h | h
            · exact HP.out j h
            · simp at h; subst h; exact HR.out
      · obtain rfl : n = l.length := by omega
        go_wp2_with fail
        go_ret
        exact ⟨ret_bool (by
          unfold askB
          have := HP.out
          rw [List.take_length] at this
          rw [List.all_eq_true.2 this]
          simp [H40.out]), hC⟩
  · have t0 : decide ((40 : Int) < l.length) = true := by simp; omega
    have t0' : decide (40 < l.length) = true := by simp; omega
    obtain ⟨p, cap, rfl⟩ := hs.form
    have H40 := Lib.hid h40
    clear hs h40
    go_enter Tryz.func5, Tryz.ntmps5
    go_wp2_with fail
    go_ret
    exact ⟨ret_bool (by unfold askB; simp [H40.out]), Chg.refl _ _⟩

/-- A place, the end for all that is without. -/
def endF (n : Nat) (x : Int) : Int := if x < 0 ∨ (n : Int) < x then n else x
theorem end_any (p : Option Addr) (n cap : Nat) (x : Int) (w : World) (hn : n ≤ 100000) : Calls Tryz.prog 73 #[.slice p n cap, .int .i64 x] w fun e w' => e = .returned (.int .i64 (endF n x)) ∧ w = w' := by
  by_cases h1 : x < 0
  · have e : endF n x = n := by unfold endF; rw [if_pos (.inl h1)]
    have t1 : decide (x < 0) = true := by simp; omega
    rw [e]
    clear e h1
    go_enter Tryz.func73, Tryz.ntmps73
    go_wp2
    go_ret
    exact ⟨rfl, rfl⟩
  · have t1 : decide (x < 0) = false := by simp; omega
    by_cases h2 : (n : Int) < x
    · have e : endF n x = n := by unfold endF; rw [if_pos (.inr h2)]
      have t2 : decide ((n : Int) < x) = true := by simp; omega
      rw [e]
      clear e h1 h2
      go_enter Tryz.func73, Tryz.ntmps73
      go_wp2
      go_ret
      exact ⟨rfl, rfl⟩
    · have e : endF n x = x := by unfold endF; rw [if_neg (by omega)]
      have t2 : decide ((n : Int) < x) = false := by simp; omega
      rw [e]
      clear e h1 h2
      go_enter Tryz.func73, Tryz.ntmps73
      go_wp2
      go_ret
      exact ⟨rfl, rfl⟩

/-- A slice that reads as integers. -/
def IAt (w : World) (v : Value) (l : List Int) : Prop := ∃ S : Nat → Prop, Sl w S 1 v l.length (l.map (Value.int .i64))
theorem IAt.chg0 {w w' : World} {v : Value} {l : List Int} (h : IAt w v l) (c : Chg NoB w w') : IAt w' v l := by obtain ⟨S, hS⟩ := h; exact ⟨S, hS.chg0 c⟩
theorem IAt.form {w : World} {v : Value} {l : List Int} (h : IAt w v l) : ∃ p c, v = .slice p l.length c := by obtain ⟨S, hS⟩ := h; exact hS.form
theorem IAt.nil (w : World) : IAt w (.slice none 0 0) [] := ⟨NoB, Sl.nil _ _ _⟩
theorem IAt.fresh (w : World) (l : List Int) : IAt (w.alloc (.cells (l.map (Value.int .i64)).toArray 3)) (.slice (some ⟨w.heap.size, 0, none⟩) l.length l.length) l := ⟨_, Sl.fresh w (l.map (Value.int .i64)) 3 l.length (by simp)⟩
/-- The same, in blocks from B on. -/
def IAtN (B : Nat) (w : World) (v : Value) (l : List Int) : Prop := Sl w (fun k => B ≤ k) 1 v l.length (l.map (Value.int .i64))
theorem IAtN.ints {B : Nat} {w : World} {v : Value} {l : List Int} (h : IAtN B w v l) : IAt w v l := ⟨_, h⟩
theorem IAtN.nil (B : Nat) (w : World) : IAtN B w (.slice none 0 0) [] := Sl.nil _ _ _
theorem IAtN.fresh {B : Nat} {w : World} (h : B ≤ w.heap.size) (l : List Int) : IAtN B (w.alloc (.cells (l.map (Value.int .i64)).toArray 3)) (.slice (some ⟨w.heap.size, 0, none⟩) l.length l.length) l :=
  (Sl.fresh w (l.map (Value.int .i64)) 3 l.length (by simp)).mono fun k hk => by rw [hk]; exact h
/-- The place of number n. -/
theorem IAt.spot {w : World} {p : Option Addr} {n c : Nat} {l : List Int} (h : IAt w (.slice p n c) l) {k : Nat} {x : Int} (hk : l[k]? = some x) : n = l.length ∧ n ≤ c ∧ ∃ g of, p = some ⟨g, of, none⟩ ∧ g < w.heap.size ∧ w.cell? ⟨g, of + k, none⟩ = some (.int .i64 x) := by
  obtain ⟨S, -, p', c', e, hc, hs⟩ := h
  cases e
  obtain ⟨g, of, hp, -, hg, hcell⟩ := hs (by have := (List.getElem?_eq_some_iff.1 hk).1; omega)
  exact ⟨rfl, hc, g, of, hp, hg, hcell k _ (by rw [List.getElem?_map, hk]; rfl)⟩

set_option maxHeartbeats 2000000 in
set_option maxRecDepth 100000 in
theorem ints_any (v v' : Value) (l m : List Int) (w : World) (hs : IAt w v l) (hm : IAt w v' m) (hl : l.length ≤ 100000) (hk : m.length ≤ 100000) : Calls Tryz.prog 15 #[v, v'] w (RetW (.bool (decide (l = m))) fun w' => Chg NoB w w') := by
  obtain ⟨p, cap, rfl⟩ := hs.form
  obtain ⟨q, caq, rfl⟩ := hm.form
  have HI := Lib.hid hs
  have HJ := Lib.hid hm
  clear hs hm
  by_cases he : l.length = m.length
  · have t0 : (l.length != m.length) = false := by simp [he]
    have t1 : ((l.length : Int) != (m.length : Int)) = false := by simp [he]
    have HE := Lib.hid he
    clear he
    go_enter Tryz.func15, Tryz.ntmps15
    go_wp2_with fail
    go_loopg [13] l.length (fun g ix wr => ∃ n : Nat, n + g = l.length ∧ ix = .int .i64 n ∧ l.take n = m.take n ∧ Chg NoB w wr)
    case atStart => exact ⟨0, by omega, rfl, rfl, Chg.refl _ _⟩
    case round =>
      obtain ⟨n, hn, rfl, hp, hC⟩ := hrel
      have HP := Lib.hid hp
      have HN := Lib.hid hn
      have hnl : n ≤ l.length := by omega
      clear hp hn
      by_cases hlt : n < l.length
      · obtain ⟨i, hi⟩ : ∃ i, l[n]? = some i := ⟨l[n], by simp [hlt]⟩
        have hlt2 : n < m.length := by have := HE.out; omega
        obtain ⟨j, hj⟩ : ∃ j, m[n]? = some j := ⟨m[n], by simp [hlt2]⟩
        obtain ⟨-, hcap, g, of, rfl, hg, x0⟩ := (HI.out.chg0 hC).spot hi
        obtain ⟨-, hcaq, g', of', rfl, hg', y0⟩ := (HJ.out.chg0 hC).spot hj
        have n0 : (0 : Int) ≤ n := by omega
        have HL := Lib.hid hi
        have HM := Lib.hid hj
        have HC := Lib.hid hC
        clear hi hj hC
        by_cases hij : i = j
        · have k1 : (i != j) = false := by simp [hij]
          have HB := Lib.hid hij
          clear hij
          go_wp2_with fail
          go_quiet (fail)
          go_wp2_with fail
          go_roundg (l.length - (n + 1))
          case measure => have := HN.out; omega
          case rel => exact ⟨n + 1, by have := HN.out; omega, by go_num, by rw [List.take_add_one, List.take_add_one, HP.out, HL.out, HM.out, HB.out], HC.out.drewN _⟩
        · have k1 : (i != j) = true := by simp [hij]
          have HB := Lib.hid hij
          clear hij
          go_wp2_with fail
          go_quiet (fail)
          go_wp2_with fail
          go_ret
          refine ⟨ret_bool ?_, HC.out.drewN _⟩
          symm
          rw [decide_eq_false_iff_not]
          intro e
          have := HL.out
          rw [e, HM.out] at this
          exact HB.out (Option.some.inj this).symm
      · obtain rfl : n = l.length := by omega
        go_wp2_with fail
        go_ret
        exact ⟨ret_bool (by have h := HP.out; rw [List.take_length, HE.out, List.take_length] at h; simp [h]), hC⟩
  · have t0 : (l.length != m.length) = true := by simp [he]
    have t1 : ((l.length : Int) != (m.length : Int)) = true := by simp; omega
    have HE := Lib.hid he
    clear he
    go_enter Tryz.func15, Tryz.ntmps15
    go_wp2_with fail
    go_ret
    exact ⟨ret_bool (by symm; simp; intro e; exact HE.out (by rw [e])), Chg.refl _ _⟩
end Go.Proofs.YtapmojfebljjnaaGreat
set_option linter.unusedVariables false
namespace Go.Proofs.YtapmojfebljjnaaGreat
open Go.RowKit Go.RR

/-- What may follow the instruction i at place n, of so many. -/
def follow (len n : Nat) (i : In) : List Int :=
  if kd i.op = .J then [endF len (n + i.im)]
  else if kd i.op = .B then (if endF len (n + i.im) < n + 1 then [endF len (n + i.im), (n : Int) + 1] else if (n : Int) + 1 < endF len (n + i.im) then [(n : Int) + 1, endF len (n + i.im)] else [endF len (n + i.im)])
  else if i.op = 0 then [] else [(n : Int) + 1]
def nextF (l : List In) (x : Int) : List Int := if x < 0 then [] else match l[x.toNat]? with
  | none => []
  | some i => follow l.length x.toNat i
theorem nextF_at {l : List In} {n : Nat} {i : In} (h : l[n]? = some i) : nextF l (n : Int) = follow l.length n i := by
  unfold nextF
  rw [if_neg (by omega), Int.toNat_natCast, h]
theorem nextF_out {l : List In} {x : Int} (h : x < 0 ∨ (l.length : Int) ≤ x) : nextF l x = [] := by
  unfold nextF
  by_cases h0 : x < 0
  · rw [if_pos h0]
  · rw [if_neg h0, List.getElem?_eq_none (by omega)]
theorem endF_in (n : Nat) (x : Int) : 0 ≤ endF n x ∧ endF n x ≤ n := by unfold endF; split <;> omega


end Go.Proofs.YtapmojfebljjnaaGreat
set_option linter.unusedVariables false
set_option linter.unusedSimpArgs false
set_option linter.unusedSectionVars false
namespace Go.Proofs.YtapmojfebljjnaaGreat
open Go.RowKit Go.RR

set_option maxHeartbeats 2000000 in
set_option maxRecDepth 100000 in
theorem set_any39 (v : Value) (l : List Int) (w : World) (hs : IAt w v l) (hl : l.length ≤ 1000) : Calls Tryz.prog 79 #[v] w fun e w' => e = .returned (.int .u16 (orL l 0 : Nat)) ∧ w = w' := by
  obtain ⟨p, cap, rfl⟩ := hs.form
  have HI := Lib.hid hs
  clear hs
  go_enter Tryz.func79, Tryz.ntmps79
  go_wp2_with fail
  go_loopg [3, 8] l.length (fun g ov ix wr => ∃ m : Nat, m + g = l.length ∧ ix = .int .i64 m ∧ ov = .int .u16 (orL (l.take m) 0 : Nat) ∧ wr = w)
  case atStart => exact ⟨0, by omega, rfl, rfl, rfl⟩
  case round =>
    obtain ⟨m, hm, rfl, rfl, rfl⟩ := hrel
    have HM := Lib.hid hm
    have hml : m ≤ l.length := by omega
    clear hm
    by_cases hmt : m < l.length
    · obtain ⟨r, hr⟩ : ∃ r, l[m]? = some r := ⟨l[m], by simp [hmt]⟩
      obtain ⟨-, hcap, g, of, rfl, hg, x0⟩ := HI.out.spot hr
      have m0 : (0 : Int) ≤ m := by omega
      have hmx : l.take (m + 1) = l.take m ++ [r] := by rw [List.take_add_one, hr]; rfl
      have HMX := Lib.hid hmx
      clear hr hmx
      by_cases h1 : 0 < r
      · have t1 : decide (0 < r) = true := by simp; omega
        by_cases h2 : r < 16
        · have t2 : decide (r < 16) = true := by simp; omega
          have HB := Lib.hid (ownB_yes (n := r) (by omega) (by omega))
          have q0 : 1 ≤ r := by omega
          have q1 : r ≤ 15 := by omega
          clear h1 h2
          go_wp2_with fail
          go_roundg (l.length - (m + 1))
          case measure => have := HM.out; omega
          case rel => exact ⟨m + 1, by have := HM.out; omega, by go_num, by rw [HMX.out, orL_snoc]; exact congrArg (Value.int .u16) (or_bit39 _ r (orL_lt _ _ (by omega)) HB.out), rfl⟩
        · have t2 : decide (r < 16) = false := by simp; omega
          have HB := Lib.hid (ownB_no (n := r) (.inr (by omega)))
          clear h1 h2
          go_wp2_with fail
          go_roundg (l.length - (m + 1))
          case measure => have := HM.out; omega
          case rel => exact ⟨m + 1, by have := HM.out; omega, by go_num, by rw [HMX.out, orL_skip HB.out], rfl⟩
      · have t1 : decide (0 < r) = false := by simp; omega
        have HB := Lib.hid (ownB_no (n := r) (.inl (by omega)))
        clear h1
        go_wp2_with fail
        go_roundg (l.length - (m + 1))
        case measure => have := HM.out; omega
        case rel => exact ⟨m + 1, by have := HM.out; omega, by go_num, by rw [HMX.out, orL_skip HB.out], rfl⟩
    · obtain rfl : m = l.length := by omega
      rw [List.take_length]
      go_wp2_with fail
      go_ret
      exact ⟨rfl, rfl⟩

theorem set1 (a : Int) : orL [a] 0 = bitR a := by simp [orL]
theorem set2 (a b : Int) : orL [a, b] 0 = bitR a ||| bitR b := by simp [orL]
set_option maxHeartbeats 2000000 in
set_option maxRecDepth 100000 in
theorem freads_any (i : In) (w : World) : Calls Tryz.prog 40 #[.agg #[.int .i64 i.op, .int .i64 i.rd, .int .i64 i.rs, .int .i64 i.rt, .int .i64 i.im]] w (RetW (.int .u16 (readsF i : Nat)) fun w' => Chg NoB w w') := by
  have B0 := Lib.hid (Blk.new w #[.int .i64 i.op, .int .i64 i.rd, .int .i64 i.rs, .int .i64 i.rt, .int .i64 i.im] 41)
  have A0 := Lib.hid ((Chg.refl NoB w).alloc (.cells #[.int .i64 i.op, .int .i64 i.rd, .int .i64 i.rs, .int .i64 i.rt, .int .i64 i.im] 41))
  obtain ⟨k, hk⟩ : ∃ k, kd i.op = k := ⟨_, rfl⟩
  have HK := Lib.hid hk
  have hz : (w.alloc (.cells #[.int .i64 i.op, .int .i64 i.rd, .int .i64 i.rs, .int .i64 i.rt, .int .i64 i.im] 41)).heap.size = w.heap.size + 1 := by simp
  have S1 : IAt ((w.alloc (.cells #[.int .i64 i.op, .int .i64 i.rd, .int .i64 i.rs, .int .i64 i.rt, .int .i64 i.im] 41)).alloc (.cells #[.int .i64 i.rs] 3)) (.slice (some ⟨w.heap.size + 1, 0, none⟩) 1 1) [i.rs] := by have h := IAt.fresh (w.alloc (.cells #[.int .i64 i.op, .int .i64 i.rd, .int .i64 i.rs, .int .i64 i.rt, .int .i64 i.im] 41)) [i.rs]; rw [hz] at h; exact h
  have S2 : IAt ((w.alloc (.cells #[.int .i64 i.op, .int .i64 i.rd, .int .i64 i.rs, .int .i64 i.rt, .int .i64 i.im] 41)).alloc (.cells #[.int .i64 i.rs, .int .i64 i.rt] 3)) (.slice (some ⟨w.heap.size + 1, 0, none⟩) 2 2) [i.rs, i.rt] := by have h := IAt.fresh (w.alloc (.cells #[.int .i64 i.op, .int .i64 i.rd, .int .i64 i.rs, .int .i64 i.rt, .int .i64 i.im] 41)) [i.rs, i.rt]; rw [hz] at h; exact h
  have HS1 := Lib.hid S1
  have HS2 := Lib.hid S2
  clear S1 S2 hz
  unfold readsF
  rw [hk]
  clear hk
  cases k
  all_goals
    simp only [Kd.q, Kd.t, if_true, if_false, Nat.or_zero, Nat.zero_or, Bool.false_eq_true]
    go_enter Tryz.func40, Tryz.ntmps40
    go_wp2_with fail
    refine (kind_any _ _).mono ?_
    rintro e w1 ⟨rfl, rfl⟩
    rw [HK.out]
    simp only [Kd.s]
    first
    | (go_wp2_with fail
       go_ret
       exact ⟨rfl, A0.out⟩)
    | (go_wp2_with fail
       (with_reducible refine (set_any39 _ _ _ HS1.out (by simp)).mono ?_)
       rintro e w2 ⟨rfl, rfl⟩
       rw [set1]
       go_wp2_with fail
       go_ret
       exact ⟨rfl, A0.out.alloc _⟩)
    | (go_wp2_with fail
       (with_reducible refine (set_any39 _ _ _ HS2.out (by simp)).mono ?_)
       rintro e w2 ⟨rfl, rfl⟩
       rw [set2]
       go_wp2_with fail
       go_ret
       exact ⟨rfl, A0.out.alloc _⟩)
set_option maxHeartbeats 2000000 in
set_option maxRecDepth 100000 in
theorem fwrites_any (i : In) (w : World) : Calls Tryz.prog 78 #[.agg #[.int .i64 i.op, .int .i64 i.rd, .int .i64 i.rs, .int .i64 i.rt, .int .i64 i.im]] w (RetW (.int .u16 (writesF i : Nat)) fun w' => Chg NoB w w') := by
  have B0 := Lib.hid (Blk.new w #[.int .i64 i.op, .int .i64 i.rd, .int .i64 i.rs, .int .i64 i.rt, .int .i64 i.im] 41)
  have A0 := Lib.hid ((Chg.refl NoB w).alloc (.cells #[.int .i64 i.op, .int .i64 i.rd, .int .i64 i.rs, .int .i64 i.rt, .int .i64 i.im] 41))
  obtain ⟨k, hk⟩ : ∃ k, kd i.op = k := ⟨_, rfl⟩
  have HK := Lib.hid hk
  have hz : (w.alloc (.cells #[.int .i64 i.op, .int .i64 i.rd, .int .i64 i.rs, .int .i64 i.rt, .int .i64 i.im] 41)).heap.size = w.heap.size + 1 := by simp
  have S1 : IAt ((w.alloc (.cells #[.int .i64 i.op, .int .i64 i.rd, .int .i64 i.rs, .int .i64 i.rt, .int .i64 i.im] 41)).alloc (.cells #[.int .i64 i.rd] 3)) (.slice (some ⟨w.heap.size + 1, 0, none⟩) 1 1) [i.rd] := by have h := IAt.fresh (w.alloc (.cells #[.int .i64 i.op, .int .i64 i.rd, .int .i64 i.rs, .int .i64 i.rt, .int .i64 i.im] 41)) [i.rd]; rw [hz] at h; exact h
  have S2 : IAt ((w.alloc (.cells #[.int .i64 i.op, .int .i64 i.rd, .int .i64 i.rs, .int .i64 i.rt, .int .i64 i.im] 41)).alloc (.cells #[.int .i64 i.rs, .int .i64 i.rt] 3)) (.slice (some ⟨w.heap.size + 1, 0, none⟩) 2 2) [i.rs, i.rt] := by have h := IAt.fresh (w.alloc (.cells #[.int .i64 i.op, .int .i64 i.rd, .int .i64 i.rs, .int .i64 i.rt, .int .i64 i.im] 41)) [i.rs, i.rt]; rw [hz] at h; exact h
  have HS1 := Lib.hid S1
  have HS2 := Lib.hid S2
  clear S1 S2 hz
  unfold writesF
  rw [hk]
  clear hk
  cases k
  all_goals
    simp only [Kd.d, if_true, if_false, Bool.false_eq_true]
    go_enter Tryz.func78, Tryz.ntmps78
    go_wp2_with fail
    refine (kind_any _ _).mono ?_
    rintro e w1 ⟨rfl, rfl⟩
    rw [HK.out]
    simp only [Kd.s]
    first
    | (go_wp2_with fail
       go_ret
       exact ⟨rfl, A0.out⟩)
    | (go_wp2_with fail
       (with_reducible refine (set_any39 _ _ _ HS1.out (by simp)).mono ?_)
       rintro e w2 ⟨rfl, rfl⟩
       rw [set1]
       go_wp2_with fail
       go_ret
       exact ⟨rfl, A0.out.alloc _⟩)
end Go.Proofs.YtapmojfebljjnaaGreat
