/- What may follow, by the reference. No condition. -/
import Derived.Test.YtdkplhdinklflaaFlow
set_option linter.unusedVariables false
namespace Go.Proofs.Ytdkplhdinklflaa
open Go.RowKit Go.RR

/-- What may follow the instruction i at place n, of so many. -/
def follow (len n : Nat) (i : In) : List Int :=
  if kd i.op = .J then [endF len (n + i.im)]
  else if kd i.op = .B then (if endF len (n + i.im) < n + 1 then [endF len (n + i.im), (n : Int) + 1] else if (n : Int) + 1 < endF len (n + i.im) then [(n : Int) + 1, endF len (n + i.im)] else [endF len (n + i.im)])
  else if i.op = 0 then [] else [(n : Int) + 1]
def nextF (l : List In) (x : Int) : List Int := if x < 0 then [] else match l[x.toNat]? with
  | none => []
  | some i => follow l.length x.toNat i
theorem nextF_at {l : List In} {n : Nat} {i : In} (h : l[n]? = some i) : nextF l (n : Int) = follow l.length n i := by
  unfold nextF
  rw [if_neg (by omega), Int.toNat_natCast, h]
theorem nextF_out {l : List In} {x : Int} (h : x < 0 ∨ (l.length : Int) ≤ x) : nextF l x = [] := by
  unfold nextF
  by_cases h0 : x < 0
  · rw [if_pos h0]
  · rw [if_neg h0, List.getElem?_eq_none (by omega)]
theorem endF_in (n : Nat) (x : Int) : 0 ≤ endF n x ∧ endF n x ≤ n := by unfold endF; split <;> omega


set_option maxHeartbeats 4000000 in
set_option maxRecDepth 100000 in
theorem rnext_any (S : Nat → Prop) (v : Value) (l : List In) (x : Int) (w : World) (hs : Sl w S 5 v l.length (icells l)) (hl : l.length ≤ 40) (hr : ∀ i ∈ l, rightB i = true) (hx : -9223372036854775808 ≤ x ∧ x ≤ 9223372036854775807) :
    Calls Try.prog 37 #[v, .int .i64 x] w (RetSl fun y w' => IAtN w.heap.size w' y (nextF l x) ∧ Chg NoB w w') := by
  obtain ⟨p, cap, rfl, hI⟩ := InsAt.of hs (by omega)
  have HI := Lib.hid hI
  clear hs hI
  by_cases h0 : x < 0
  · have t0 : decide (x < 0) = true := by simp; omega
    have H := Lib.hid (nextF_out (l := l) (.inl h0))
    clear h0 hx
    go_enter Try.func37, Try.ntmps37
    go_wp2_with fail
    go_ret
    exact ⟨_, rfl, by rw [H.out]; exact IAtN.nil _ _, Chg.refl _ _⟩
  · have t0 : decide (x < 0) = false := by simp; omega
    obtain ⟨n, rfl⟩ := Int.eq_ofNat_of_zero_le (by omega : 0 ≤ x)
    by_cases h1 : l.length ≤ n
    · have t1 : decide ((l.length : Int) ≤ n) = true := by simp; omega
      have t1' : decide (l.length ≤ n) = true := by simp; omega
      have H := Lib.hid (nextF_out (l := l) (x := (n : Int)) (.inr (by omega)))
      clear h0 hx h1
      go_enter Try.func37, Try.ntmps37
      go_wp2_with fail
      go_ret
      exact ⟨_, rfl, by rw [H.out]; exact IAtN.nil _ _, Chg.refl _ _⟩
    · have t1 : decide ((l.length : Int) ≤ n) = false := by simp; omega
      have t1' : decide (l.length ≤ n) = false := by simp; omega
      have hlt : n < l.length := by omega
      obtain ⟨i, hi⟩ : ∃ i, l[n]? = some i := ⟨l[n], by simp [hlt]⟩
      obtain ⟨m0, m1⟩ := rightB_im (hr i (List.mem_of_getElem? hi))
      obtain ⟨g, of, rfl, hg, x0, x1, x2, x3, x4⟩ := HI.out.at hi
      have hcap := HI.out.cap
      have HL := Lib.hid hi
      have hIr := Lib.hid hr
      obtain ⟨k, hk⟩ : ∃ k, kd i.op = k := ⟨_, rfl⟩
      have HK := Lib.hid hk
      clear h0 hx h1 hi hr hk
      obtain ⟨dst, hto⟩ : ∃ dst, endF l.length (n + i.im) = dst := ⟨_, rfl⟩
      have hti := endF_in l.length (n + i.im)
      rw [hto] at hti
      obtain ⟨ht0, ht1⟩ := hti
      have HT := Lib.hid hto
      have A0 := Lib.hid HI.out
      by_cases c1 : (n : Int) + i.im < 0
      · have q1 : decide ((n : Int) + i.im < 0) = true := by simp; omega
        have ed : dst = (l.length : Int) := by rw [← hto]; unfold endF; rw [if_pos (.inl c1)]
        subst ed
        clear c1 hto
        cases k
        ·
          by_cases hop : i.op = 0
          · have q3 : (i.op == 0) = true := by simp [hop]
            have HOP := Lib.hid hop
            clear hop
            go_enter Try.func37, Try.ntmps37
            go_wp2_with fail
            refine (rkind_any i _).mono ?_
            rintro e w1 ⟨rfl, C1⟩
            rw [HK.out]
            simp only [Kd.s]
            have HC := Lib.hid C1
            replace x0 := C1.cell x0 id
            replace hg := Nat.lt_of_lt_of_le hg C1.size
            clear C1 x1 x2 x3 x4
            go_wp2_with fail
            go_ret
            have e : nextF l (n : Int) = [] := by
              rw [nextF_at HL.out, follow, HT.out, HK.out]
              rw [if_neg (by decide), if_neg (by decide), if_pos HOP.out]
            exact ⟨_, rfl, by rw [e]; exact (IAtN.nil _ _), HC.out⟩
          · have q3 : (i.op == 0) = false := by simp [hop]
            have HOP := Lib.hid hop
            clear hop
            go_enter Try.func37, Try.ntmps37
            go_wp2_with fail
            refine (rkind_any i _).mono ?_
            rintro e w1 ⟨rfl, C1⟩
            rw [HK.out]
            simp only [Kd.s]
            have HC := Lib.hid C1
            replace x0 := C1.cell x0 id
            replace hg := Nat.lt_of_lt_of_le hg C1.size
            clear C1 x1 x2 x3 x4
            go_wp2_with fail
            go_ret
            have e : nextF l (n : Int) = [(n : Int) + 1] := by
              rw [nextF_at HL.out, follow, HT.out, HK.out]
              rw [if_neg (by decide), if_neg (by decide), if_neg HOP.out]
            exact ⟨_, rfl, by rw [e]; exact (IAtN.fresh HC.out.size [(n : Int) + 1]), HC.out.alloc _⟩
        ·
          by_cases hop : i.op = 0
          · have q3 : (i.op == 0) = true := by simp [hop]
            have HOP := Lib.hid hop
            clear hop
            go_enter Try.func37, Try.ntmps37
            go_wp2_with fail
            refine (rkind_any i _).mono ?_
            rintro e w1 ⟨rfl, C1⟩
            rw [HK.out]
            simp only [Kd.s]
            have HC := Lib.hid C1
            replace x0 := C1.cell x0 id
            replace hg := Nat.lt_of_lt_of_le hg C1.size
            clear C1 x1 x2 x3 x4
            go_wp2_with fail
            go_ret
            have e : nextF l (n : Int) = [] := by
              rw [nextF_at HL.out, follow, HT.out, HK.out]
              rw [if_neg (by decide), if_neg (by decide), if_pos HOP.out]
            exact ⟨_, rfl, by rw [e]; exact (IAtN.nil _ _), HC.out⟩
          · have q3 : (i.op == 0) = false := by simp [hop]
            have HOP := Lib.hid hop
            clear hop
            go_enter Try.func37, Try.ntmps37
            go_wp2_with fail
            refine (rkind_any i _).mono ?_
            rintro e w1 ⟨rfl, C1⟩
            rw [HK.out]
            simp only [Kd.s]
            have HC := Lib.hid C1
            replace x0 := C1.cell x0 id
            replace hg := Nat.lt_of_lt_of_le hg C1.size
            clear C1 x1 x2 x3 x4
            go_wp2_with fail
            go_ret
            have e : nextF l (n : Int) = [(n : Int) + 1] := by
              rw [nextF_at HL.out, follow, HT.out, HK.out]
              rw [if_neg (by decide), if_neg (by decide), if_neg HOP.out]
            exact ⟨_, rfl, by rw [e]; exact (IAtN.fresh HC.out.size [(n : Int) + 1]), HC.out.alloc _⟩
        ·
          by_cases hop : i.op = 0
          · have q3 : (i.op == 0) = true := by simp [hop]
            have HOP := Lib.hid hop
            clear hop
            go_enter Try.func37, Try.ntmps37
            go_wp2_with fail
            refine (rkind_any i _).mono ?_
            rintro e w1 ⟨rfl, C1⟩
            rw [HK.out]
            simp only [Kd.s]
            have HC := Lib.hid C1
            replace x0 := C1.cell x0 id
            replace hg := Nat.lt_of_lt_of_le hg C1.size
            clear C1 x1 x2 x3 x4
            go_wp2_with fail
            go_ret
            have e : nextF l (n : Int) = [] := by
              rw [nextF_at HL.out, follow, HT.out, HK.out]
              rw [if_neg (by decide), if_neg (by decide), if_pos HOP.out]
            exact ⟨_, rfl, by rw [e]; exact (IAtN.nil _ _), HC.out⟩
          · have q3 : (i.op == 0) = false := by simp [hop]
            have HOP := Lib.hid hop
            clear hop
            go_enter Try.func37, Try.ntmps37
            go_wp2_with fail
            refine (rkind_any i _).mono ?_
            rintro e w1 ⟨rfl, C1⟩
            rw [HK.out]
            simp only [Kd.s]
            have HC := Lib.hid C1
            replace x0 := C1.cell x0 id
            replace hg := Nat.lt_of_lt_of_le hg C1.size
            clear C1 x1 x2 x3 x4
            go_wp2_with fail
            go_ret
            have e : nextF l (n : Int) = [(n : Int) + 1] := by
              rw [nextF_at HL.out, follow, HT.out, HK.out]
              rw [if_neg (by decide), if_neg (by decide), if_neg HOP.out]
            exact ⟨_, rfl, by rw [e]; exact (IAtN.fresh HC.out.size [(n : Int) + 1]), HC.out.alloc _⟩
        ·
          by_cases hop : i.op = 0
          · have q3 : (i.op == 0) = true := by simp [hop]
            have HOP := Lib.hid hop
            clear hop
            go_enter Try.func37, Try.ntmps37
            go_wp2_with fail
            refine (rkind_any i _).mono ?_
            rintro e w1 ⟨rfl, C1⟩
            rw [HK.out]
            simp only [Kd.s]
            have HC := Lib.hid C1
            replace x0 := C1.cell x0 id
            replace hg := Nat.lt_of_lt_of_le hg C1.size
            clear C1 x1 x2 x3 x4
            go_wp2_with fail
            go_ret
            have e : nextF l (n : Int) = [] := by
              rw [nextF_at HL.out, follow, HT.out, HK.out]
              rw [if_neg (by decide), if_neg (by decide), if_pos HOP.out]
            exact ⟨_, rfl, by rw [e]; exact (IAtN.nil _ _), HC.out⟩
          · have q3 : (i.op == 0) = false := by simp [hop]
            have HOP := Lib.hid hop
            clear hop
            go_enter Try.func37, Try.ntmps37
            go_wp2_with fail
            refine (rkind_any i _).mono ?_
            rintro e w1 ⟨rfl, C1⟩
            rw [HK.out]
            simp only [Kd.s]
            have HC := Lib.hid C1
            replace x0 := C1.cell x0 id
            replace hg := Nat.lt_of_lt_of_le hg C1.size
            clear C1 x1 x2 x3 x4
            go_wp2_with fail
            go_ret
            have e : nextF l (n : Int) = [(n : Int) + 1] := by
              rw [nextF_at HL.out, follow, HT.out, HK.out]
              rw [if_neg (by decide), if_neg (by decide), if_neg HOP.out]
            exact ⟨_, rfl, by rw [e]; exact (IAtN.fresh HC.out.size [(n : Int) + 1]), HC.out.alloc _⟩
        ·
          by_cases hop : i.op = 0
          · have q3 : (i.op == 0) = true := by simp [hop]
            have HOP := Lib.hid hop
            clear hop
            go_enter Try.func37, Try.ntmps37
            go_wp2_with fail
            refine (rkind_any i _).mono ?_
            rintro e w1 ⟨rfl, C1⟩
            rw [HK.out]
            simp only [Kd.s]
            have HC := Lib.hid C1
            replace x0 := C1.cell x0 id
            replace hg := Nat.lt_of_lt_of_le hg C1.size
            clear C1 x1 x2 x3 x4
            go_wp2_with fail
            go_ret
            have e : nextF l (n : Int) = [] := by
              rw [nextF_at HL.out, follow, HT.out, HK.out]
              rw [if_neg (by decide), if_neg (by decide), if_pos HOP.out]
            exact ⟨_, rfl, by rw [e]; exact (IAtN.nil _ _), HC.out⟩
          · have q3 : (i.op == 0) = false := by simp [hop]
            have HOP := Lib.hid hop
            clear hop
            go_enter Try.func37, Try.ntmps37
            go_wp2_with fail
            refine (rkind_any i _).mono ?_
            rintro e w1 ⟨rfl, C1⟩
            rw [HK.out]
            simp only [Kd.s]
            have HC := Lib.hid C1
            replace x0 := C1.cell x0 id
            replace hg := Nat.lt_of_lt_of_le hg C1.size
            clear C1 x1 x2 x3 x4
            go_wp2_with fail
            go_ret
            have e : nextF l (n : Int) = [(n : Int) + 1] := by
              rw [nextF_at HL.out, follow, HT.out, HK.out]
              rw [if_neg (by decide), if_neg (by decide), if_neg HOP.out]
            exact ⟨_, rfl, by rw [e]; exact (IAtN.fresh HC.out.size [(n : Int) + 1]), HC.out.alloc _⟩
        ·
          by_cases hop : i.op = 0
          · have q3 : (i.op == 0) = true := by simp [hop]
            have HOP := Lib.hid hop
            clear hop
            go_enter Try.func37, Try.ntmps37
            go_wp2_with fail
            refine (rkind_any i _).mono ?_
            rintro e w1 ⟨rfl, C1⟩
            rw [HK.out]
            simp only [Kd.s]
            have HC := Lib.hid C1
            replace x0 := C1.cell x0 id
            replace hg := Nat.lt_of_lt_of_le hg C1.size
            clear C1 x1 x2 x3 x4
            go_wp2_with fail
            go_ret
            have e : nextF l (n : Int) = [] := by
              rw [nextF_at HL.out, follow, HT.out, HK.out]
              rw [if_neg (by decide), if_neg (by decide), if_pos HOP.out]
            exact ⟨_, rfl, by rw [e]; exact (IAtN.nil _ _), HC.out⟩
          · have q3 : (i.op == 0) = false := by simp [hop]
            have HOP := Lib.hid hop
            clear hop
            go_enter Try.func37, Try.ntmps37
            go_wp2_with fail
            refine (rkind_any i _).mono ?_
            rintro e w1 ⟨rfl, C1⟩
            rw [HK.out]
            simp only [Kd.s]
            have HC := Lib.hid C1
            replace x0 := C1.cell x0 id
            replace hg := Nat.lt_of_lt_of_le hg C1.size
            clear C1 x1 x2 x3 x4
            go_wp2_with fail
            go_ret
            have e : nextF l (n : Int) = [(n : Int) + 1] := by
              rw [nextF_at HL.out, follow, HT.out, HK.out]
              rw [if_neg (by decide), if_neg (by decide), if_neg HOP.out]
            exact ⟨_, rfl, by rw [e]; exact (IAtN.fresh HC.out.size [(n : Int) + 1]), HC.out.alloc _⟩
        ·
          by_cases b1 : (l.length : Int) < (n : Int) + 1
          · have q3 : decide ((l.length : Int) < (n : Int) + 1) = true := by simp; omega
            have q3' : decide ((l.length : Int) < ((n + 1 : Nat) : Int)) = true := by simp; omega
            have HB := Lib.hid b1
            clear b1
            go_enter Try.func37, Try.ntmps37
            go_wp2_with fail
            refine (rkind_any i _).mono ?_
            rintro e w1 ⟨rfl, C1⟩
            rw [HK.out]
            simp only [Kd.s]
            have HC := Lib.hid C1
            replace x0 := C1.cell x0 id
            replace hg := Nat.lt_of_lt_of_le hg C1.size
            clear C1 x1 x2 x3 x4
            go_wp2_with fail
            go_ret
            have e : nextF l (n : Int) = [(l.length : Int), (n : Int) + 1] := by
              rw [nextF_at HL.out, follow, HT.out, HK.out]
              rw [if_neg (by decide), if_pos rfl, if_pos (by have := HB.out; omega)]
            exact ⟨_, rfl, by rw [e]; exact (IAtN.fresh HC.out.size [(l.length : Int), (n : Int) + 1]), HC.out.alloc _⟩
          · have q3 : decide ((l.length : Int) < (n : Int) + 1) = false := by simp; omega
            have q3' : decide ((l.length : Int) < ((n + 1 : Nat) : Int)) = false := by simp; omega
            by_cases b2 : (n : Int) + 1 < (l.length : Int)
            · have q4 : decide ((n : Int) + 1 < (l.length : Int)) = true := by simp; omega
              have HB := Lib.hid b1
              have HB2 := Lib.hid b2
              clear b1 b2
              go_enter Try.func37, Try.ntmps37
              go_wp2_with fail
              refine (rkind_any i _).mono ?_
              rintro e w1 ⟨rfl, C1⟩
              rw [HK.out]
              simp only [Kd.s]
              have HC := Lib.hid C1
              replace x0 := C1.cell x0 id
              replace hg := Nat.lt_of_lt_of_le hg C1.size
              clear C1 x1 x2 x3 x4
              go_wp2_with fail
              go_ret
              have e : nextF l (n : Int) = [(n : Int) + 1, (l.length : Int)] := by
                rw [nextF_at HL.out, follow, HT.out, HK.out]
                rw [if_neg (by decide), if_pos rfl, if_neg (by have := HB.out; omega), if_pos (by have := HB2.out; omega)]
              exact ⟨_, rfl, by rw [e]; exact (IAtN.fresh HC.out.size [(n : Int) + 1, (l.length : Int)]), HC.out.alloc _⟩
            · have q4 : decide ((n : Int) + 1 < (l.length : Int)) = false := by simp; omega
              have HB := Lib.hid b1
              have HB2 := Lib.hid b2
              clear b1 b2
              go_enter Try.func37, Try.ntmps37
              go_wp2_with fail
              refine (rkind_any i _).mono ?_
              rintro e w1 ⟨rfl, C1⟩
              rw [HK.out]
              simp only [Kd.s]
              have HC := Lib.hid C1
              replace x0 := C1.cell x0 id
              replace hg := Nat.lt_of_lt_of_le hg C1.size
              clear C1 x1 x2 x3 x4
              go_wp2_with fail
              go_ret
              have e : nextF l (n : Int) = [(l.length : Int)] := by
                rw [nextF_at HL.out, follow, HT.out, HK.out]
                rw [if_neg (by decide), if_pos rfl, if_neg (by have := HB.out; omega), if_neg (by have := HB2.out; omega)]
              exact ⟨_, rfl, by rw [e]; exact (IAtN.fresh HC.out.size [(l.length : Int)]), HC.out.alloc _⟩
        ·
          go_enter Try.func37, Try.ntmps37
          go_wp2_with fail
          refine (rkind_any i _).mono ?_
          rintro e w1 ⟨rfl, C1⟩
          rw [HK.out]
          simp only [Kd.s]
          have HC := Lib.hid C1
          replace x0 := C1.cell x0 id
          replace hg := Nat.lt_of_lt_of_le hg C1.size
          clear C1 x1 x2 x3 x4
          go_wp2_with fail
          go_ret
          have e : nextF l (n : Int) = [(l.length : Int)] := by
            rw [nextF_at HL.out, follow, HT.out, HK.out]
            rfl
          exact ⟨_, rfl, by rw [e]; exact (IAtN.fresh HC.out.size [(l.length : Int)]), HC.out.alloc _⟩
        ·
          by_cases hop : i.op = 0
          · have q3 : (i.op == 0) = true := by simp [hop]
            have HOP := Lib.hid hop
            clear hop
            go_enter Try.func37, Try.ntmps37
            go_wp2_with fail
            refine (rkind_any i _).mono ?_
            rintro e w1 ⟨rfl, C1⟩
            rw [HK.out]
            simp only [Kd.s]
            have HC := Lib.hid C1
            replace x0 := C1.cell x0 id
            replace hg := Nat.lt_of_lt_of_le hg C1.size
            clear C1 x1 x2 x3 x4
            go_wp2_with fail
            go_ret
            have e : nextF l (n : Int) = [] := by
              rw [nextF_at HL.out, follow, HT.out, HK.out]
              rw [if_neg (by decide), if_neg (by decide), if_pos HOP.out]
            exact ⟨_, rfl, by rw [e]; exact (IAtN.nil _ _), HC.out⟩
          · have q3 : (i.op == 0) = false := by simp [hop]
            have HOP := Lib.hid hop
            clear hop
            go_enter Try.func37, Try.ntmps37
            go_wp2_with fail
            refine (rkind_any i _).mono ?_
            rintro e w1 ⟨rfl, C1⟩
            rw [HK.out]
            simp only [Kd.s]
            have HC := Lib.hid C1
            replace x0 := C1.cell x0 id
            replace hg := Nat.lt_of_lt_of_le hg C1.size
            clear C1 x1 x2 x3 x4
            go_wp2_with fail
            go_ret
            have e : nextF l (n : Int) = [(n : Int) + 1] := by
              rw [nextF_at HL.out, follow, HT.out, HK.out]
              rw [if_neg (by decide), if_neg (by decide), if_neg HOP.out]
            exact ⟨_, rfl, by rw [e]; exact (IAtN.fresh HC.out.size [(n : Int) + 1]), HC.out.alloc _⟩
        ·
          by_cases hop : i.op = 0
          · have q3 : (i.op == 0) = true := by simp [hop]
            have HOP := Lib.hid hop
            clear hop
            go_enter Try.func37, Try.ntmps37
            go_wp2_with fail
            refine (rkind_any i _).mono ?_
            rintro e w1 ⟨rfl, C1⟩
            rw [HK.out]
            simp only [Kd.s]
            have HC := Lib.hid C1
            replace x0 := C1.cell x0 id
            replace hg := Nat.lt_of_lt_of_le hg C1.size
            clear C1 x1 x2 x3 x4
            go_wp2_with fail
            go_ret
            have e : nextF l (n : Int) = [] := by
              rw [nextF_at HL.out, follow, HT.out, HK.out]
              rw [if_neg (by decide), if_neg (by decide), if_pos HOP.out]
            exact ⟨_, rfl, by rw [e]; exact (IAtN.nil _ _), HC.out⟩
          · have q3 : (i.op == 0) = false := by simp [hop]
            have HOP := Lib.hid hop
            clear hop
            go_enter Try.func37, Try.ntmps37
            go_wp2_with fail
            refine (rkind_any i _).mono ?_
            rintro e w1 ⟨rfl, C1⟩
            rw [HK.out]
            simp only [Kd.s]
            have HC := Lib.hid C1
            replace x0 := C1.cell x0 id
            replace hg := Nat.lt_of_lt_of_le hg C1.size
            clear C1 x1 x2 x3 x4
            go_wp2_with fail
            go_ret
            have e : nextF l (n : Int) = [(n : Int) + 1] := by
              rw [nextF_at HL.out, follow, HT.out, HK.out]
              rw [if_neg (by decide), if_neg (by decide), if_neg HOP.out]
            exact ⟨_, rfl, by rw [e]; exact (IAtN.fresh HC.out.size [(n : Int) + 1]), HC.out.alloc _⟩
        ·
          by_cases hop : i.op = 0
          · have q3 : (i.op == 0) = true := by simp [hop]
            have HOP := Lib.hid hop
            clear hop
            go_enter Try.func37, Try.ntmps37
            go_wp2_with fail
            refine (rkind_any i _).mono ?_
            rintro e w1 ⟨rfl, C1⟩
            rw [HK.out]
            simp only [Kd.s]
            have HC := Lib.hid C1
            replace x0 := C1.cell x0 id
            replace hg := Nat.lt_of_lt_of_le hg C1.size
            clear C1 x1 x2 x3 x4
            go_wp2_with fail
            go_ret
            have e : nextF l (n : Int) = [] := by
              rw [nextF_at HL.out, follow, HT.out, HK.out]
              rw [if_neg (by decide), if_neg (by decide), if_pos HOP.out]
            exact ⟨_, rfl, by rw [e]; exact (IAtN.nil _ _), HC.out⟩
          · have q3 : (i.op == 0) = false := by simp [hop]
            have HOP := Lib.hid hop
            clear hop
            go_enter Try.func37, Try.ntmps37
            go_wp2_with fail
            refine (rkind_any i _).mono ?_
            rintro e w1 ⟨rfl, C1⟩
            rw [HK.out]
            simp only [Kd.s]
            have HC := Lib.hid C1
            replace x0 := C1.cell x0 id
            replace hg := Nat.lt_of_lt_of_le hg C1.size
            clear C1 x1 x2 x3 x4
            go_wp2_with fail
            go_ret
            have e : nextF l (n : Int) = [(n : Int) + 1] := by
              rw [nextF_at HL.out, follow, HT.out, HK.out]
              rw [if_neg (by decide), if_neg (by decide), if_neg HOP.out]
            exact ⟨_, rfl, by rw [e]; exact (IAtN.fresh HC.out.size [(n : Int) + 1]), HC.out.alloc _⟩
      · have q1 : decide ((n : Int) + i.im < 0) = false := by simp; omega
        by_cases c2 : (l.length : Int) < n + i.im
        · have q2 : decide ((l.length : Int) < n + i.im) = true := by simp; omega
          have ed : dst = (l.length : Int) := by rw [← hto]; unfold endF; rw [if_pos (.inr c2)]
          subst ed
          clear c1 c2 hto
          cases k
          ·
            by_cases hop : i.op = 0
            · have q3 : (i.op == 0) = true := by simp [hop]
              have HOP := Lib.hid hop
              clear hop
              go_enter Try.func37, Try.ntmps37
              go_wp2_with fail
              refine (rkind_any i _).mono ?_
              rintro e w1 ⟨rfl, C1⟩
              rw [HK.out]
              simp only [Kd.s]
              have HC := Lib.hid C1
              replace x0 := C1.cell x0 id
              replace hg := Nat.lt_of_lt_of_le hg C1.size
              clear C1 x1 x2 x3 x4
              go_wp2_with fail
              go_ret
              have e : nextF l (n : Int) = [] := by
                rw [nextF_at HL.out, follow, HT.out, HK.out]
                rw [if_neg (by decide), if_neg (by decide), if_pos HOP.out]
              exact ⟨_, rfl, by rw [e]; exact (IAtN.nil _ _), HC.out⟩
            · have q3 : (i.op == 0) = false := by simp [hop]
              have HOP := Lib.hid hop
              clear hop
              go_enter Try.func37, Try.ntmps37
              go_wp2_with fail
              refine (rkind_any i _).mono ?_
              rintro e w1 ⟨rfl, C1⟩
              rw [HK.out]
              simp only [Kd.s]
              have HC := Lib.hid C1
              replace x0 := C1.cell x0 id
              replace hg := Nat.lt_of_lt_of_le hg C1.size
              clear C1 x1 x2 x3 x4
              go_wp2_with fail
              go_ret
              have e : nextF l (n : Int) = [(n : Int) + 1] := by
                rw [nextF_at HL.out, follow, HT.out, HK.out]
                rw [if_neg (by decide), if_neg (by decide), if_neg HOP.out]
              exact ⟨_, rfl, by rw [e]; exact (IAtN.fresh HC.out.size [(n : Int) + 1]), HC.out.alloc _⟩
          ·
            by_cases hop : i.op = 0
            · have q3 : (i.op == 0) = true := by simp [hop]
              have HOP := Lib.hid hop
              clear hop
              go_enter Try.func37, Try.ntmps37
              go_wp2_with fail
              refine (rkind_any i _).mono ?_
              rintro e w1 ⟨rfl, C1⟩
              rw [HK.out]
              simp only [Kd.s]
              have HC := Lib.hid C1
              replace x0 := C1.cell x0 id
              replace hg := Nat.lt_of_lt_of_le hg C1.size
              clear C1 x1 x2 x3 x4
              go_wp2_with fail
              go_ret
              have e : nextF l (n : Int) = [] := by
                rw [nextF_at HL.out, follow, HT.out, HK.out]
                rw [if_neg (by decide), if_neg (by decide), if_pos HOP.out]
              exact ⟨_, rfl, by rw [e]; exact (IAtN.nil _ _), HC.out⟩
            · have q3 : (i.op == 0) = false := by simp [hop]
              have HOP := Lib.hid hop
              clear hop
              go_enter Try.func37, Try.ntmps37
              go_wp2_with fail
              refine (rkind_any i _).mono ?_
              rintro e w1 ⟨rfl, C1⟩
              rw [HK.out]
              simp only [Kd.s]
              have HC := Lib.hid C1
              replace x0 := C1.cell x0 id
              replace hg := Nat.lt_of_lt_of_le hg C1.size
              clear C1 x1 x2 x3 x4
              go_wp2_with fail
              go_ret
              have e : nextF l (n : Int) = [(n : Int) + 1] := by
                rw [nextF_at HL.out, follow, HT.out, HK.out]
                rw [if_neg (by decide), if_neg (by decide), if_neg HOP.out]
              exact ⟨_, rfl, by rw [e]; exact (IAtN.fresh HC.out.size [(n : Int) + 1]), HC.out.alloc _⟩
          ·
            by_cases hop : i.op = 0
            · have q3 : (i.op == 0) = true := by simp [hop]
              have HOP := Lib.hid hop
              clear hop
              go_enter Try.func37, Try.ntmps37
              go_wp2_with fail
              refine (rkind_any i _).mono ?_
              rintro e w1 ⟨rfl, C1⟩
              rw [HK.out]
              simp only [Kd.s]
              have HC := Lib.hid C1
              replace x0 := C1.cell x0 id
              replace hg := Nat.lt_of_lt_of_le hg C1.size
              clear C1 x1 x2 x3 x4
              go_wp2_with fail
              go_ret
              have e : nextF l (n : Int) = [] := by
                rw [nextF_at HL.out, follow, HT.out, HK.out]
                rw [if_neg (by decide), if_neg (by decide), if_pos HOP.out]
              exact ⟨_, rfl, by rw [e]; exact (IAtN.nil _ _), HC.out⟩
            · have q3 : (i.op == 0) = false := by simp [hop]
              have HOP := Lib.hid hop
              clear hop
              go_enter Try.func37, Try.ntmps37
              go_wp2_with fail
              refine (rkind_any i _).mono ?_
              rintro e w1 ⟨rfl, C1⟩
              rw [HK.out]
              simp only [Kd.s]
              have HC := Lib.hid C1
              replace x0 := C1.cell x0 id
              replace hg := Nat.lt_of_lt_of_le hg C1.size
              clear C1 x1 x2 x3 x4
              go_wp2_with fail
              go_ret
              have e : nextF l (n : Int) = [(n : Int) + 1] := by
                rw [nextF_at HL.out, follow, HT.out, HK.out]
                rw [if_neg (by decide), if_neg (by decide), if_neg HOP.out]
              exact ⟨_, rfl, by rw [e]; exact (IAtN.fresh HC.out.size [(n : Int) + 1]), HC.out.alloc _⟩
          ·
            by_cases hop : i.op = 0
            · have q3 : (i.op == 0) = true := by simp [hop]
              have HOP := Lib.hid hop
              clear hop
              go_enter Try.func37, Try.ntmps37
              go_wp2_with fail
              refine (rkind_any i _).mono ?_
              rintro e w1 ⟨rfl, C1⟩
              rw [HK.out]
              simp only [Kd.s]
              have HC := Lib.hid C1
              replace x0 := C1.cell x0 id
              replace hg := Nat.lt_of_lt_of_le hg C1.size
              clear C1 x1 x2 x3 x4
              go_wp2_with fail
              go_ret
              have e : nextF l (n : Int) = [] := by
                rw [nextF_at HL.out, follow, HT.out, HK.out]
                rw [if_neg (by decide), if_neg (by decide), if_pos HOP.out]
              exact ⟨_, rfl, by rw [e]; exact (IAtN.nil _ _), HC.out⟩
            · have q3 : (i.op == 0) = false := by simp [hop]
              have HOP := Lib.hid hop
              clear hop
              go_enter Try.func37, Try.ntmps37
              go_wp2_with fail
              refine (rkind_any i _).mono ?_
              rintro e w1 ⟨rfl, C1⟩
              rw [HK.out]
              simp only [Kd.s]
              have HC := Lib.hid C1
              replace x0 := C1.cell x0 id
              replace hg := Nat.lt_of_lt_of_le hg C1.size
              clear C1 x1 x2 x3 x4
              go_wp2_with fail
              go_ret
              have e : nextF l (n : Int) = [(n : Int) + 1] := by
                rw [nextF_at HL.out, follow, HT.out, HK.out]
                rw [if_neg (by decide), if_neg (by decide), if_neg HOP.out]
              exact ⟨_, rfl, by rw [e]; exact (IAtN.fresh HC.out.size [(n : Int) + 1]), HC.out.alloc _⟩
          ·
            by_cases hop : i.op = 0
            · have q3 : (i.op == 0) = true := by simp [hop]
              have HOP := Lib.hid hop
              clear hop
              go_enter Try.func37, Try.ntmps37
              go_wp2_with fail
              refine (rkind_any i _).mono ?_
              rintro e w1 ⟨rfl, C1⟩
              rw [HK.out]
              simp only [Kd.s]
              have HC := Lib.hid C1
              replace x0 := C1.cell x0 id
              replace hg := Nat.lt_of_lt_of_le hg C1.size
              clear C1 x1 x2 x3 x4
              go_wp2_with fail
              go_ret
              have e : nextF l (n : Int) = [] := by
                rw [nextF_at HL.out, follow, HT.out, HK.out]
                rw [if_neg (by decide), if_neg (by decide), if_pos HOP.out]
              exact ⟨_, rfl, by rw [e]; exact (IAtN.nil _ _), HC.out⟩
            · have q3 : (i.op == 0) = false := by simp [hop]
              have HOP := Lib.hid hop
              clear hop
              go_enter Try.func37, Try.ntmps37
              go_wp2_with fail
              refine (rkind_any i _).mono ?_
              rintro e w1 ⟨rfl, C1⟩
              rw [HK.out]
              simp only [Kd.s]
              have HC := Lib.hid C1
              replace x0 := C1.cell x0 id
              replace hg := Nat.lt_of_lt_of_le hg C1.size
              clear C1 x1 x2 x3 x4
              go_wp2_with fail
              go_ret
              have e : nextF l (n : Int) = [(n : Int) + 1] := by
                rw [nextF_at HL.out, follow, HT.out, HK.out]
                rw [if_neg (by decide), if_neg (by decide), if_neg HOP.out]
              exact ⟨_, rfl, by rw [e]; exact (IAtN.fresh HC.out.size [(n : Int) + 1]), HC.out.alloc _⟩
          ·
            by_cases hop : i.op = 0
            · have q3 : (i.op == 0) = true := by simp [hop]
              have HOP := Lib.hid hop
              clear hop
              go_enter Try.func37, Try.ntmps37
              go_wp2_with fail
              refine (rkind_any i _).mono ?_
              rintro e w1 ⟨rfl, C1⟩
              rw [HK.out]
              simp only [Kd.s]
              have HC := Lib.hid C1
              replace x0 := C1.cell x0 id
              replace hg := Nat.lt_of_lt_of_le hg C1.size
              clear C1 x1 x2 x3 x4
              go_wp2_with fail
              go_ret
              have e : nextF l (n : Int) = [] := by
                rw [nextF_at HL.out, follow, HT.out, HK.out]
                rw [if_neg (by decide), if_neg (by decide), if_pos HOP.out]
              exact ⟨_, rfl, by rw [e]; exact (IAtN.nil _ _), HC.out⟩
            · have q3 : (i.op == 0) = false := by simp [hop]
              have HOP := Lib.hid hop
              clear hop
              go_enter Try.func37, Try.ntmps37
              go_wp2_with fail
              refine (rkind_any i _).mono ?_
              rintro e w1 ⟨rfl, C1⟩
              rw [HK.out]
              simp only [Kd.s]
              have HC := Lib.hid C1
              replace x0 := C1.cell x0 id
              replace hg := Nat.lt_of_lt_of_le hg C1.size
              clear C1 x1 x2 x3 x4
              go_wp2_with fail
              go_ret
              have e : nextF l (n : Int) = [(n : Int) + 1] := by
                rw [nextF_at HL.out, follow, HT.out, HK.out]
                rw [if_neg (by decide), if_neg (by decide), if_neg HOP.out]
              exact ⟨_, rfl, by rw [e]; exact (IAtN.fresh HC.out.size [(n : Int) + 1]), HC.out.alloc _⟩
          ·
            by_cases b1 : (l.length : Int) < (n : Int) + 1
            · have q3 : decide ((l.length : Int) < (n : Int) + 1) = true := by simp; omega
              have q3' : decide ((l.length : Int) < ((n + 1 : Nat) : Int)) = true := by simp; omega
              have HB := Lib.hid b1
              clear b1
              go_enter Try.func37, Try.ntmps37
              go_wp2_with fail
              refine (rkind_any i _).mono ?_
              rintro e w1 ⟨rfl, C1⟩
              rw [HK.out]
              simp only [Kd.s]
              have HC := Lib.hid C1
              replace x0 := C1.cell x0 id
              replace hg := Nat.lt_of_lt_of_le hg C1.size
              clear C1 x1 x2 x3 x4
              go_wp2_with fail
              go_ret
              have e : nextF l (n : Int) = [(l.length : Int), (n : Int) + 1] := by
                rw [nextF_at HL.out, follow, HT.out, HK.out]
                rw [if_neg (by decide), if_pos rfl, if_pos (by have := HB.out; omega)]
              exact ⟨_, rfl, by rw [e]; exact (IAtN.fresh HC.out.size [(l.length : Int), (n : Int) + 1]), HC.out.alloc _⟩
            · have q3 : decide ((l.length : Int) < (n : Int) + 1) = false := by simp; omega
              have q3' : decide ((l.length : Int) < ((n + 1 : Nat) : Int)) = false := by simp; omega
              by_cases b2 : (n : Int) + 1 < (l.length : Int)
              · have q4 : decide ((n : Int) + 1 < (l.length : Int)) = true := by simp; omega
                have HB := Lib.hid b1
                have HB2 := Lib.hid b2
                clear b1 b2
                go_enter Try.func37, Try.ntmps37
                go_wp2_with fail
                refine (rkind_any i _).mono ?_
                rintro e w1 ⟨rfl, C1⟩
                rw [HK.out]
                simp only [Kd.s]
                have HC := Lib.hid C1
                replace x0 := C1.cell x0 id
                replace hg := Nat.lt_of_lt_of_le hg C1.size
                clear C1 x1 x2 x3 x4
                go_wp2_with fail
                go_ret
                have e : nextF l (n : Int) = [(n : Int) + 1, (l.length : Int)] := by
                  rw [nextF_at HL.out, follow, HT.out, HK.out]
                  rw [if_neg (by decide), if_pos rfl, if_neg (by have := HB.out; omega), if_pos (by have := HB2.out; omega)]
                exact ⟨_, rfl, by rw [e]; exact (IAtN.fresh HC.out.size [(n : Int) + 1, (l.length : Int)]), HC.out.alloc _⟩
              · have q4 : decide ((n : Int) + 1 < (l.length : Int)) = false := by simp; omega
                have HB := Lib.hid b1
                have HB2 := Lib.hid b2
                clear b1 b2
                go_enter Try.func37, Try.ntmps37
                go_wp2_with fail
                refine (rkind_any i _).mono ?_
                rintro e w1 ⟨rfl, C1⟩
                rw [HK.out]
                simp only [Kd.s]
                have HC := Lib.hid C1
                replace x0 := C1.cell x0 id
                replace hg := Nat.lt_of_lt_of_le hg C1.size
                clear C1 x1 x2 x3 x4
                go_wp2_with fail
                go_ret
                have e : nextF l (n : Int) = [(l.length : Int)] := by
                  rw [nextF_at HL.out, follow, HT.out, HK.out]
                  rw [if_neg (by decide), if_pos rfl, if_neg (by have := HB.out; omega), if_neg (by have := HB2.out; omega)]
                exact ⟨_, rfl, by rw [e]; exact (IAtN.fresh HC.out.size [(l.length : Int)]), HC.out.alloc _⟩
          ·
            go_enter Try.func37, Try.ntmps37
            go_wp2_with fail
            refine (rkind_any i _).mono ?_
            rintro e w1 ⟨rfl, C1⟩
            rw [HK.out]
            simp only [Kd.s]
            have HC := Lib.hid C1
            replace x0 := C1.cell x0 id
            replace hg := Nat.lt_of_lt_of_le hg C1.size
            clear C1 x1 x2 x3 x4
            go_wp2_with fail
            go_ret
            have e : nextF l (n : Int) = [(l.length : Int)] := by
              rw [nextF_at HL.out, follow, HT.out, HK.out]
              rfl
            exact ⟨_, rfl, by rw [e]; exact (IAtN.fresh HC.out.size [(l.length : Int)]), HC.out.alloc _⟩
          ·
            by_cases hop : i.op = 0
            · have q3 : (i.op == 0) = true := by simp [hop]
              have HOP := Lib.hid hop
              clear hop
              go_enter Try.func37, Try.ntmps37
              go_wp2_with fail
              refine (rkind_any i _).mono ?_
              rintro e w1 ⟨rfl, C1⟩
              rw [HK.out]
              simp only [Kd.s]
              have HC := Lib.hid C1
              replace x0 := C1.cell x0 id
              replace hg := Nat.lt_of_lt_of_le hg C1.size
              clear C1 x1 x2 x3 x4
              go_wp2_with fail
              go_ret
              have e : nextF l (n : Int) = [] := by
                rw [nextF_at HL.out, follow, HT.out, HK.out]
                rw [if_neg (by decide), if_neg (by decide), if_pos HOP.out]
              exact ⟨_, rfl, by rw [e]; exact (IAtN.nil _ _), HC.out⟩
            · have q3 : (i.op == 0) = false := by simp [hop]
              have HOP := Lib.hid hop
              clear hop
              go_enter Try.func37, Try.ntmps37
              go_wp2_with fail
              refine (rkind_any i _).mono ?_
              rintro e w1 ⟨rfl, C1⟩
              rw [HK.out]
              simp only [Kd.s]
              have HC := Lib.hid C1
              replace x0 := C1.cell x0 id
              replace hg := Nat.lt_of_lt_of_le hg C1.size
              clear C1 x1 x2 x3 x4
              go_wp2_with fail
              go_ret
              have e : nextF l (n : Int) = [(n : Int) + 1] := by
                rw [nextF_at HL.out, follow, HT.out, HK.out]
                rw [if_neg (by decide), if_neg (by decide), if_neg HOP.out]
              exact ⟨_, rfl, by rw [e]; exact (IAtN.fresh HC.out.size [(n : Int) + 1]), HC.out.alloc _⟩
          ·
            by_cases hop : i.op = 0
            · have q3 : (i.op == 0) = true := by simp [hop]
              have HOP := Lib.hid hop
              clear hop
              go_enter Try.func37, Try.ntmps37
              go_wp2_with fail
              refine (rkind_any i _).mono ?_
              rintro e w1 ⟨rfl, C1⟩
              rw [HK.out]
              simp only [Kd.s]
              have HC := Lib.hid C1
              replace x0 := C1.cell x0 id
              replace hg := Nat.lt_of_lt_of_le hg C1.size
              clear C1 x1 x2 x3 x4
              go_wp2_with fail
              go_ret
              have e : nextF l (n : Int) = [] := by
                rw [nextF_at HL.out, follow, HT.out, HK.out]
                rw [if_neg (by decide), if_neg (by decide), if_pos HOP.out]
              exact ⟨_, rfl, by rw [e]; exact (IAtN.nil _ _), HC.out⟩
            · have q3 : (i.op == 0) = false := by simp [hop]
              have HOP := Lib.hid hop
              clear hop
              go_enter Try.func37, Try.ntmps37
              go_wp2_with fail
              refine (rkind_any i _).mono ?_
              rintro e w1 ⟨rfl, C1⟩
              rw [HK.out]
              simp only [Kd.s]
              have HC := Lib.hid C1
              replace x0 := C1.cell x0 id
              replace hg := Nat.lt_of_lt_of_le hg C1.size
              clear C1 x1 x2 x3 x4
              go_wp2_with fail
              go_ret
              have e : nextF l (n : Int) = [(n : Int) + 1] := by
                rw [nextF_at HL.out, follow, HT.out, HK.out]
                rw [if_neg (by decide), if_neg (by decide), if_neg HOP.out]
              exact ⟨_, rfl, by rw [e]; exact (IAtN.fresh HC.out.size [(n : Int) + 1]), HC.out.alloc _⟩
          ·
            by_cases hop : i.op = 0
            · have q3 : (i.op == 0) = true := by simp [hop]
              have HOP := Lib.hid hop
              clear hop
              go_enter Try.func37, Try.ntmps37
              go_wp2_with fail
              refine (rkind_any i _).mono ?_
              rintro e w1 ⟨rfl, C1⟩
              rw [HK.out]
              simp only [Kd.s]
              have HC := Lib.hid C1
              replace x0 := C1.cell x0 id
              replace hg := Nat.lt_of_lt_of_le hg C1.size
              clear C1 x1 x2 x3 x4
              go_wp2_with fail
              go_ret
              have e : nextF l (n : Int) = [] := by
                rw [nextF_at HL.out, follow, HT.out, HK.out]
                rw [if_neg (by decide), if_neg (by decide), if_pos HOP.out]
              exact ⟨_, rfl, by rw [e]; exact (IAtN.nil _ _), HC.out⟩
            · have q3 : (i.op == 0) = false := by simp [hop]
              have HOP := Lib.hid hop
              clear hop
              go_enter Try.func37, Try.ntmps37
              go_wp2_with fail
              refine (rkind_any i _).mono ?_
              rintro e w1 ⟨rfl, C1⟩
              rw [HK.out]
              simp only [Kd.s]
              have HC := Lib.hid C1
              replace x0 := C1.cell x0 id
              replace hg := Nat.lt_of_lt_of_le hg C1.size
              clear C1 x1 x2 x3 x4
              go_wp2_with fail
              go_ret
              have e : nextF l (n : Int) = [(n : Int) + 1] := by
                rw [nextF_at HL.out, follow, HT.out, HK.out]
                rw [if_neg (by decide), if_neg (by decide), if_neg HOP.out]
              exact ⟨_, rfl, by rw [e]; exact (IAtN.fresh HC.out.size [(n : Int) + 1]), HC.out.alloc _⟩
        · have ed : (n : Int) + i.im = dst := by rw [← hto]; unfold endF; rw [if_neg (by omega)]
          have q2 : decide ((l.length : Int) < dst) = false := by simp; omega
          have q1' : decide (dst < 0) = false := by simp; omega
          clear c1 c2 hto q1
          cases k
          ·
            by_cases hop : i.op = 0
            · have q3 : (i.op == 0) = true := by simp [hop]
              have HOP := Lib.hid hop
              clear hop
              go_enter Try.func37, Try.ntmps37
              go_wp2_with fail
              refine (rkind_any i _).mono ?_
              rintro e w1 ⟨rfl, C1⟩
              rw [HK.out]
              simp only [Kd.s]
              have HC := Lib.hid C1
              replace x0 := C1.cell x0 id
              replace hg := Nat.lt_of_lt_of_le hg C1.size
              clear C1 x1 x2 x3 x4
              go_wp2_with fail
              go_ret
              have e : nextF l (n : Int) = [] := by
                rw [nextF_at HL.out, follow, HT.out, HK.out]
                rw [if_neg (by decide), if_neg (by decide), if_pos HOP.out]
              exact ⟨_, rfl, by rw [e]; exact (IAtN.nil _ _), HC.out⟩
            · have q3 : (i.op == 0) = false := by simp [hop]
              have HOP := Lib.hid hop
              clear hop
              go_enter Try.func37, Try.ntmps37
              go_wp2_with fail
              refine (rkind_any i _).mono ?_
              rintro e w1 ⟨rfl, C1⟩
              rw [HK.out]
              simp only [Kd.s]
              have HC := Lib.hid C1
              replace x0 := C1.cell x0 id
              replace hg := Nat.lt_of_lt_of_le hg C1.size
              clear C1 x1 x2 x3 x4
              go_wp2_with fail
              go_ret
              have e : nextF l (n : Int) = [(n : Int) + 1] := by
                rw [nextF_at HL.out, follow, HT.out, HK.out]
                rw [if_neg (by decide), if_neg (by decide), if_neg HOP.out]
              exact ⟨_, rfl, by rw [e]; exact (IAtN.fresh HC.out.size [(n : Int) + 1]), HC.out.alloc _⟩
          ·
            by_cases hop : i.op = 0
            · have q3 : (i.op == 0) = true := by simp [hop]
              have HOP := Lib.hid hop
              clear hop
              go_enter Try.func37, Try.ntmps37
              go_wp2_with fail
              refine (rkind_any i _).mono ?_
              rintro e w1 ⟨rfl, C1⟩
              rw [HK.out]
              simp only [Kd.s]
              have HC := Lib.hid C1
              replace x0 := C1.cell x0 id
              replace hg := Nat.lt_of_lt_of_le hg C1.size
              clear C1 x1 x2 x3 x4
              go_wp2_with fail
              go_ret
              have e : nextF l (n : Int) = [] := by
                rw [nextF_at HL.out, follow, HT.out, HK.out]
                rw [if_neg (by decide), if_neg (by decide), if_pos HOP.out]
              exact ⟨_, rfl, by rw [e]; exact (IAtN.nil _ _), HC.out⟩
            · have q3 : (i.op == 0) = false := by simp [hop]
              have HOP := Lib.hid hop
              clear hop
              go_enter Try.func37, Try.ntmps37
              go_wp2_with fail
              refine (rkind_any i _).mono ?_
              rintro e w1 ⟨rfl, C1⟩
              rw [HK.out]
              simp only [Kd.s]
              have HC := Lib.hid C1
              replace x0 := C1.cell x0 id
              replace hg := Nat.lt_of_lt_of_le hg C1.size
              clear C1 x1 x2 x3 x4
              go_wp2_with fail
              go_ret
              have e : nextF l (n : Int) = [(n : Int) + 1] := by
                rw [nextF_at HL.out, follow, HT.out, HK.out]
                rw [if_neg (by decide), if_neg (by decide), if_neg HOP.out]
              exact ⟨_, rfl, by rw [e]; exact (IAtN.fresh HC.out.size [(n : Int) + 1]), HC.out.alloc _⟩
          ·
            by_cases hop : i.op = 0
            · have q3 : (i.op == 0) = true := by simp [hop]
              have HOP := Lib.hid hop
              clear hop
              go_enter Try.func37, Try.ntmps37
              go_wp2_with fail
              refine (rkind_any i _).mono ?_
              rintro e w1 ⟨rfl, C1⟩
              rw [HK.out]
              simp only [Kd.s]
              have HC := Lib.hid C1
              replace x0 := C1.cell x0 id
              replace hg := Nat.lt_of_lt_of_le hg C1.size
              clear C1 x1 x2 x3 x4
              go_wp2_with fail
              go_ret
              have e : nextF l (n : Int) = [] := by
                rw [nextF_at HL.out, follow, HT.out, HK.out]
                rw [if_neg (by decide), if_neg (by decide), if_pos HOP.out]
              exact ⟨_, rfl, by rw [e]; exact (IAtN.nil _ _), HC.out⟩
            · have q3 : (i.op == 0) = false := by simp [hop]
              have HOP := Lib.hid hop
              clear hop
              go_enter Try.func37, Try.ntmps37
              go_wp2_with fail
              refine (rkind_any i _).mono ?_
              rintro e w1 ⟨rfl, C1⟩
              rw [HK.out]
              simp only [Kd.s]
              have HC := Lib.hid C1
              replace x0 := C1.cell x0 id
              replace hg := Nat.lt_of_lt_of_le hg C1.size
              clear C1 x1 x2 x3 x4
              go_wp2_with fail
              go_ret
              have e : nextF l (n : Int) = [(n : Int) + 1] := by
                rw [nextF_at HL.out, follow, HT.out, HK.out]
                rw [if_neg (by decide), if_neg (by decide), if_neg HOP.out]
              exact ⟨_, rfl, by rw [e]; exact (IAtN.fresh HC.out.size [(n : Int) + 1]), HC.out.alloc _⟩
          ·
            by_cases hop : i.op = 0
            · have q3 : (i.op == 0) = true := by simp [hop]
              have HOP := Lib.hid hop
              clear hop
              go_enter Try.func37, Try.ntmps37
              go_wp2_with fail
              refine (rkind_any i _).mono ?_
              rintro e w1 ⟨rfl, C1⟩
              rw [HK.out]
              simp only [Kd.s]
              have HC := Lib.hid C1
              replace x0 := C1.cell x0 id
              replace hg := Nat.lt_of_lt_of_le hg C1.size
              clear C1 x1 x2 x3 x4
              go_wp2_with fail
              go_ret
              have e : nextF l (n : Int) = [] := by
                rw [nextF_at HL.out, follow, HT.out, HK.out]
                rw [if_neg (by decide), if_neg (by decide), if_pos HOP.out]
              exact ⟨_, rfl, by rw [e]; exact (IAtN.nil _ _), HC.out⟩
            · have q3 : (i.op == 0) = false := by simp [hop]
              have HOP := Lib.hid hop
              clear hop
              go_enter Try.func37, Try.ntmps37
              go_wp2_with fail
              refine (rkind_any i _).mono ?_
              rintro e w1 ⟨rfl, C1⟩
              rw [HK.out]
              simp only [Kd.s]
              have HC := Lib.hid C1
              replace x0 := C1.cell x0 id
              replace hg := Nat.lt_of_lt_of_le hg C1.size
              clear C1 x1 x2 x3 x4
              go_wp2_with fail
              go_ret
              have e : nextF l (n : Int) = [(n : Int) + 1] := by
                rw [nextF_at HL.out, follow, HT.out, HK.out]
                rw [if_neg (by decide), if_neg (by decide), if_neg HOP.out]
              exact ⟨_, rfl, by rw [e]; exact (IAtN.fresh HC.out.size [(n : Int) + 1]), HC.out.alloc _⟩
          ·
            by_cases hop : i.op = 0
            · have q3 : (i.op == 0) = true := by simp [hop]
              have HOP := Lib.hid hop
              clear hop
              go_enter Try.func37, Try.ntmps37
              go_wp2_with fail
              refine (rkind_any i _).mono ?_
              rintro e w1 ⟨rfl, C1⟩
              rw [HK.out]
              simp only [Kd.s]
              have HC := Lib.hid C1
              replace x0 := C1.cell x0 id
              replace hg := Nat.lt_of_lt_of_le hg C1.size
              clear C1 x1 x2 x3 x4
              go_wp2_with fail
              go_ret
              have e : nextF l (n : Int) = [] := by
                rw [nextF_at HL.out, follow, HT.out, HK.out]
                rw [if_neg (by decide), if_neg (by decide), if_pos HOP.out]
              exact ⟨_, rfl, by rw [e]; exact (IAtN.nil _ _), HC.out⟩
            · have q3 : (i.op == 0) = false := by simp [hop]
              have HOP := Lib.hid hop
              clear hop
              go_enter Try.func37, Try.ntmps37
              go_wp2_with fail
              refine (rkind_any i _).mono ?_
              rintro e w1 ⟨rfl, C1⟩
              rw [HK.out]
              simp only [Kd.s]
              have HC := Lib.hid C1
              replace x0 := C1.cell x0 id
              replace hg := Nat.lt_of_lt_of_le hg C1.size
              clear C1 x1 x2 x3 x4
              go_wp2_with fail
              go_ret
              have e : nextF l (n : Int) = [(n : Int) + 1] := by
                rw [nextF_at HL.out, follow, HT.out, HK.out]
                rw [if_neg (by decide), if_neg (by decide), if_neg HOP.out]
              exact ⟨_, rfl, by rw [e]; exact (IAtN.fresh HC.out.size [(n : Int) + 1]), HC.out.alloc _⟩
          ·
            by_cases hop : i.op = 0
            · have q3 : (i.op == 0) = true := by simp [hop]
              have HOP := Lib.hid hop
              clear hop
              go_enter Try.func37, Try.ntmps37
              go_wp2_with fail
              refine (rkind_any i _).mono ?_
              rintro e w1 ⟨rfl, C1⟩
              rw [HK.out]
              simp only [Kd.s]
              have HC := Lib.hid C1
              replace x0 := C1.cell x0 id
              replace hg := Nat.lt_of_lt_of_le hg C1.size
              clear C1 x1 x2 x3 x4
              go_wp2_with fail
              go_ret
              have e : nextF l (n : Int) = [] := by
                rw [nextF_at HL.out, follow, HT.out, HK.out]
                rw [if_neg (by decide), if_neg (by decide), if_pos HOP.out]
              exact ⟨_, rfl, by rw [e]; exact (IAtN.nil _ _), HC.out⟩
            · have q3 : (i.op == 0) = false := by simp [hop]
              have HOP := Lib.hid hop
              clear hop
              go_enter Try.func37, Try.ntmps37
              go_wp2_with fail
              refine (rkind_any i _).mono ?_
              rintro e w1 ⟨rfl, C1⟩
              rw [HK.out]
              simp only [Kd.s]
              have HC := Lib.hid C1
              replace x0 := C1.cell x0 id
              replace hg := Nat.lt_of_lt_of_le hg C1.size
              clear C1 x1 x2 x3 x4
              go_wp2_with fail
              go_ret
              have e : nextF l (n : Int) = [(n : Int) + 1] := by
                rw [nextF_at HL.out, follow, HT.out, HK.out]
                rw [if_neg (by decide), if_neg (by decide), if_neg HOP.out]
              exact ⟨_, rfl, by rw [e]; exact (IAtN.fresh HC.out.size [(n : Int) + 1]), HC.out.alloc _⟩
          ·
            by_cases b1 : dst < (n : Int) + 1
            · have q3 : decide (dst < (n : Int) + 1) = true := by simp; omega
              have q3' : decide (dst < ((n + 1 : Nat) : Int)) = true := by simp; omega
              have HB := Lib.hid b1
              clear b1
              go_enter Try.func37, Try.ntmps37
              go_wp2_with fail
              refine (rkind_any i _).mono ?_
              rintro e w1 ⟨rfl, C1⟩
              rw [HK.out]
              simp only [Kd.s]
              have HC := Lib.hid C1
              replace x0 := C1.cell x0 id
              replace hg := Nat.lt_of_lt_of_le hg C1.size
              clear C1 x1 x2 x3 x4
              go_wp2_with fail
              go_ret
              have e : nextF l (n : Int) = [dst, (n : Int) + 1] := by
                rw [nextF_at HL.out, follow, HT.out, HK.out]
                rw [if_neg (by decide), if_pos rfl, if_pos (by have := HB.out; omega)]
              exact ⟨_, rfl, by rw [e]; exact (IAtN.fresh HC.out.size [dst, (n : Int) + 1]), HC.out.alloc _⟩
            · have q3 : decide (dst < (n : Int) + 1) = false := by simp; omega
              have q3' : decide (dst < ((n + 1 : Nat) : Int)) = false := by simp; omega
              by_cases b2 : (n : Int) + 1 < dst
              · have q4 : decide ((n : Int) + 1 < dst) = true := by simp; omega
                have HB := Lib.hid b1
                have HB2 := Lib.hid b2
                clear b1 b2
                go_enter Try.func37, Try.ntmps37
                go_wp2_with fail
                refine (rkind_any i _).mono ?_
                rintro e w1 ⟨rfl, C1⟩
                rw [HK.out]
                simp only [Kd.s]
                have HC := Lib.hid C1
                replace x0 := C1.cell x0 id
                replace hg := Nat.lt_of_lt_of_le hg C1.size
                clear C1 x1 x2 x3 x4
                go_wp2_with fail
                go_ret
                have e : nextF l (n : Int) = [(n : Int) + 1, dst] := by
                  rw [nextF_at HL.out, follow, HT.out, HK.out]
                  rw [if_neg (by decide), if_pos rfl, if_neg (by have := HB.out; omega), if_pos (by have := HB2.out; omega)]
                exact ⟨_, rfl, by rw [e]; exact (IAtN.fresh HC.out.size [(n : Int) + 1, dst]), HC.out.alloc _⟩
              · have q4 : decide ((n : Int) + 1 < dst) = false := by simp; omega
                have HB := Lib.hid b1
                have HB2 := Lib.hid b2
                clear b1 b2
                go_enter Try.func37, Try.ntmps37
                go_wp2_with fail
                refine (rkind_any i _).mono ?_
                rintro e w1 ⟨rfl, C1⟩
                rw [HK.out]
                simp only [Kd.s]
                have HC := Lib.hid C1
                replace x0 := C1.cell x0 id
                replace hg := Nat.lt_of_lt_of_le hg C1.size
                clear C1 x1 x2 x3 x4
                go_wp2_with fail
                go_ret
                have e : nextF l (n : Int) = [dst] := by
                  rw [nextF_at HL.out, follow, HT.out, HK.out]
                  rw [if_neg (by decide), if_pos rfl, if_neg (by have := HB.out; omega), if_neg (by have := HB2.out; omega)]
                exact ⟨_, rfl, by rw [e]; exact (IAtN.fresh HC.out.size [dst]), HC.out.alloc _⟩
          ·
            go_enter Try.func37, Try.ntmps37
            go_wp2_with fail
            refine (rkind_any i _).mono ?_
            rintro e w1 ⟨rfl, C1⟩
            rw [HK.out]
            simp only [Kd.s]
            have HC := Lib.hid C1
            replace x0 := C1.cell x0 id
            replace hg := Nat.lt_of_lt_of_le hg C1.size
            clear C1 x1 x2 x3 x4
            go_wp2_with fail
            go_ret
            have e : nextF l (n : Int) = [dst] := by
              rw [nextF_at HL.out, follow, HT.out, HK.out]
              rfl
            exact ⟨_, rfl, by rw [e]; exact (IAtN.fresh HC.out.size [dst]), HC.out.alloc _⟩
          ·
            by_cases hop : i.op = 0
            · have q3 : (i.op == 0) = true := by simp [hop]
              have HOP := Lib.hid hop
              clear hop
              go_enter Try.func37, Try.ntmps37
              go_wp2_with fail
              refine (rkind_any i _).mono ?_
              rintro e w1 ⟨rfl, C1⟩
              rw [HK.out]
              simp only [Kd.s]
              have HC := Lib.hid C1
              replace x0 := C1.cell x0 id
              replace hg := Nat.lt_of_lt_of_le hg C1.size
              clear C1 x1 x2 x3 x4
              go_wp2_with fail
              go_ret
              have e : nextF l (n : Int) = [] := by
                rw [nextF_at HL.out, follow, HT.out, HK.out]
                rw [if_neg (by decide), if_neg (by decide), if_pos HOP.out]
              exact ⟨_, rfl, by rw [e]; exact (IAtN.nil _ _), HC.out⟩
            · have q3 : (i.op == 0) = false := by simp [hop]
              have HOP := Lib.hid hop
              clear hop
              go_enter Try.func37, Try.ntmps37
              go_wp2_with fail
              refine (rkind_any i _).mono ?_
              rintro e w1 ⟨rfl, C1⟩
              rw [HK.out]
              simp only [Kd.s]
              have HC := Lib.hid C1
              replace x0 := C1.cell x0 id
              replace hg := Nat.lt_of_lt_of_le hg C1.size
              clear C1 x1 x2 x3 x4
              go_wp2_with fail
              go_ret
              have e : nextF l (n : Int) = [(n : Int) + 1] := by
                rw [nextF_at HL.out, follow, HT.out, HK.out]
                rw [if_neg (by decide), if_neg (by decide), if_neg HOP.out]
              exact ⟨_, rfl, by rw [e]; exact (IAtN.fresh HC.out.size [(n : Int) + 1]), HC.out.alloc _⟩
          ·
            by_cases hop : i.op = 0
            · have q3 : (i.op == 0) = true := by simp [hop]
              have HOP := Lib.hid hop
              clear hop
              go_enter Try.func37, Try.ntmps37
              go_wp2_with fail
              refine (rkind_any i _).mono ?_
              rintro e w1 ⟨rfl, C1⟩
              rw [HK.out]
              simp only [Kd.s]
              have HC := Lib.hid C1
              replace x0 := C1.cell x0 id
              replace hg := Nat.lt_of_lt_of_le hg C1.size
              clear C1 x1 x2 x3 x4
              go_wp2_with fail
              go_ret
              have e : nextF l (n : Int) = [] := by
                rw [nextF_at HL.out, follow, HT.out, HK.out]
                rw [if_neg (by decide), if_neg (by decide), if_pos HOP.out]
              exact ⟨_, rfl, by rw [e]; exact (IAtN.nil _ _), HC.out⟩
            · have q3 : (i.op == 0) = false := by simp [hop]
              have HOP := Lib.hid hop
              clear hop
              go_enter Try.func37, Try.ntmps37
              go_wp2_with fail
              refine (rkind_any i _).mono ?_
              rintro e w1 ⟨rfl, C1⟩
              rw [HK.out]
              simp only [Kd.s]
              have HC := Lib.hid C1
              replace x0 := C1.cell x0 id
              replace hg := Nat.lt_of_lt_of_le hg C1.size
              clear C1 x1 x2 x3 x4
              go_wp2_with fail
              go_ret
              have e : nextF l (n : Int) = [(n : Int) + 1] := by
                rw [nextF_at HL.out, follow, HT.out, HK.out]
                rw [if_neg (by decide), if_neg (by decide), if_neg HOP.out]
              exact ⟨_, rfl, by rw [e]; exact (IAtN.fresh HC.out.size [(n : Int) + 1]), HC.out.alloc _⟩
          ·
            by_cases hop : i.op = 0
            · have q3 : (i.op == 0) = true := by simp [hop]
              have HOP := Lib.hid hop
              clear hop
              go_enter Try.func37, Try.ntmps37
              go_wp2_with fail
              refine (rkind_any i _).mono ?_
              rintro e w1 ⟨rfl, C1⟩
              rw [HK.out]
              simp only [Kd.s]
              have HC := Lib.hid C1
              replace x0 := C1.cell x0 id
              replace hg := Nat.lt_of_lt_of_le hg C1.size
              clear C1 x1 x2 x3 x4
              go_wp2_with fail
              go_ret
              have e : nextF l (n : Int) = [] := by
                rw [nextF_at HL.out, follow, HT.out, HK.out]
                rw [if_neg (by decide), if_neg (by decide), if_pos HOP.out]
              exact ⟨_, rfl, by rw [e]; exact (IAtN.nil _ _), HC.out⟩
            · have q3 : (i.op == 0) = false := by simp [hop]
              have HOP := Lib.hid hop
              clear hop
              go_enter Try.func37, Try.ntmps37
              go_wp2_with fail
              refine (rkind_any i _).mono ?_
              rintro e w1 ⟨rfl, C1⟩
              rw [HK.out]
              simp only [Kd.s]
              have HC := Lib.hid C1
              replace x0 := C1.cell x0 id
              replace hg := Nat.lt_of_lt_of_le hg C1.size
              clear C1 x1 x2 x3 x4
              go_wp2_with fail
              go_ret
              have e : nextF l (n : Int) = [(n : Int) + 1] := by
                rw [nextF_at HL.out, follow, HT.out, HK.out]
                rw [if_neg (by decide), if_neg (by decide), if_neg HOP.out]
              exact ⟨_, rfl, by rw [e]; exact (IAtN.fresh HC.out.size [(n : Int) + 1]), HC.out.alloc _⟩
end Go.Proofs.Ytdkplhdinklflaa
