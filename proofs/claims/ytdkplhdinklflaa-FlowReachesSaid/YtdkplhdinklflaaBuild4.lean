/- Pieces of programs: joined ones. No condition. -/
import Derived.Test.YtdkplhdinklflaaBuild3
set_option linter.unusedVariables false
namespace Go.Proofs.Ytdkplhdinklflaa
open Go.RowKit Go.RR

set_option maxRecDepth 100000 in
theorem grow_any (k : Nat) (hk : k ≤ 100000) (w : World) : Calls Try.prog 91 #[.slice none 0 0, .int .i64 k] w (RetSl fun v w' => Own w' (fun q => w.heap.size ≤ q) 32 5 v 0 [] ∧ Chg NoB w w') := by
  obtain ⟨i0, hi0, hz0, hz1, hz2⟩ := info_parts INinfo
  by_cases h0 : k = 0
  · subst h0
    clear hi0 hz0 hz1 hz2
    go_enter Try.func91, Try.ntmps91
    go_wp2
    go_ret
    exact ⟨_, rfl, Own.nil _ _ _ _, Chg.refl _ _⟩
  · have t0 : decide ((k : Int) < 0) = false := by simp
    have t1 : decide (0 < (k : Int)) = true := by simp; omega
    have t2 : decide (0 < k) = true := by simp; omega
    have q1 : 0 < k := by omega
    have q2 : 0 < i0.size := by omega
    have q3 : k ≤ maxLen := by unfold maxLen; omega
    have q4 : k * i0.bytes ≤ 140737488355328 := by rw [hz2]; omega
    have q5 : (Value.agg #[.int .i64 0, .int .i64 0, .int .i64 0, .int .i64 0, .int .i64 0]).cells.size = i0.size := by rw [hz1]; rfl
    go_enter Try.func91, Try.ntmps91
    go_wp2_with (at_builtin; go_must (refine oper_zeros rfl _ _ 23 3 32 rfl i0 _ .i64 .i64 Try.underlying23 Try.underlying3 hi0 hz0 q5 rfl k rfl q1 q2 q3 q4 ?_))
    intro c w1 o1 C1 hc
    have HO := Lib.hid o1
    have HC := Lib.hid C1
    clear o1 C1 hi0 hz0 hz1 hz2 q5 q4 q3 q2 h0
    go_wp2
    go_ret
    exact ⟨_, rfl, HO.out, HC.out⟩

/-- Slices of instructions, one behind another. -/
def PRows (w : World) (vs : List Value) (ls : List (List In)) : Prop := vs.length = ls.length ∧ ∀ (n : Nat) (x : Value) (l : List In), vs[n]? = some x → ls[n]? = some l → ∃ S : Nat → Prop, Sl w S 5 x l.length (icells l)
theorem PRows.chg0 {w w' : World} {vs : List Value} {ls : List (List In)} (h : PRows w vs ls) (c : Chg NoB w w') : PRows w' vs ls :=
  ⟨h.1, fun n x l h1 h2 => by obtain ⟨S, hS⟩ := h.2 n x l h1 h2; exact ⟨S, hS.chg0 c⟩⟩
theorem PRows.nil (w : World) : PRows w [] [] := ⟨rfl, fun n x l h => by simp at h⟩
theorem PRows.cons {w : World} {v : Value} {l : List In} {vs : List Value} {ls : List (List In)} {S : Nat → Prop} (h : Sl w S 5 v l.length (icells l)) (r : PRows w vs ls) : PRows w (v :: vs) (l :: ls) :=
  ⟨by simp [r.1], fun n x m h1 h2 => by
    cases n with
    | zero => simp at h1 h2; subst h1 h2; exact ⟨S, h⟩
    | succ n => exact r.2 n x m (by simpa using h1) (by simpa using h2)⟩
theorem flat_next {ls : List (List In)} {n : Nat} {l : List In} (h : ls[n]? = some l) : (ls.take (n + 1)).flatten = (ls.take n).flatten ++ l := by
  rw [List.take_add_one, h, List.flatten_append]; simp
theorem flat_le (ls : List (List In)) (n : Nat) : (ls.take n).flatten.length ≤ ls.flatten.length := by
  conv => rhs; rw [← List.take_append_drop n ls, List.flatten_append, List.length_append]
  omega


set_option maxHeartbeats 1000000 in
set_option maxRecDepth 100000 in
theorem concat_any (S : Nat → Prop) (v : Value) (vs : List Value) (ls : List (List In)) (w : World) (hs : Sl w S 1 v vs.length vs) (hr : PRows w vs ls) (hn : vs.length ≤ 1000) (hl : ls.flatten.length ≤ 100000) :
    Calls Try.prog 64 #[v] w (RetSl fun v' w' => IsNew w w' v' ls.flatten) := by
  obtain ⟨i0, hi0, hz0, hz1, hz2⟩ := info_parts INinfo
  obtain ⟨p, cap, rfl⟩ := hs.form
  have HS := Lib.hid hs
  have HR := Lib.hid hr
  have HI := Lib.hid (And.intro hi0 (And.intro hz0 (And.intro hz1 hz2)))
  clear hs hr hi0 hz0 hz1 hz2
  go_enter Try.func64, Try.ntmps64
  go_wp2_with fail
  go_loopg [3, 11] vs.length (fun m sz ix wr => ∃ n : Nat, n + m = vs.length ∧ ix = .int .i64 n ∧ sz = .int .i64 ((ls.take n).flatten.length : Nat) ∧ wr = w)
  case atStart => exact ⟨0, by omega, rfl, by simp, rfl⟩
  case round =>
    obtain ⟨n, hn, rfl, rfl, rfl⟩ := hrel
    have HN := Lib.hid hn
    have hnl : n ≤ vs.length := by omega
    clear hn
    have hC : Chg NoB wr wr := Chg.refl _ _
    by_cases hlt : n < vs.length
    ·
      -- the slice at place n of the rows, read in world wr: x = .slice p l.length cap
      obtain ⟨x, hx⟩ : ∃ x, vs[n]? = some x := ⟨vs[n]'(by omega), by simp [show n < vs.length by omega]⟩
      obtain ⟨l, hl⟩ : ∃ l, ls[n]? = some l := ⟨ls[n]'(by have := HR.out.1; omega), by simp [show n < ls.length by have := HR.out.1; omega]⟩
      obtain ⟨S', hS'⟩ := (HR.out.chg0 hC).2 n x l hx hl
      obtain ⟨p', cap', rfl⟩ := hS'.form
      obtain ⟨-, pz, cz, e, hcz, hsz⟩ := HS.out.chg0 hC
      cases e
      obtain ⟨g, of, rfl, -, hg, hcell⟩ := hsz (by omega)
      have x0 := hcell n _ hx
      have hfn := flat_next hl
      have hle := flat_le ls (n + 1)
      rw [hfn, List.length_append] at hle
      have n0 : (0 : Int) ≤ n := by omega
      have t0 : decide (((ls.take n).flatten.length : Int) + (l.length : Int) < 0) = false := by simp; omega
      have HX := Lib.hid hfn
      clear hx hl hcell hsz hS' hC hfn
      generalize hfl : (ls.take n).flatten.length = fl at *
      have HFL := Lib.hid hfl
      clear hfl
      go_wp2_with fail
      go_roundg (vs.length - (n + 1))
      case measure => have := HN.out; omega
      case rel => exact ⟨n + 1, by have := HN.out; omega, by go_num, by rw [HX.out, List.length_append, HFL.out]; go_num, rfl⟩
    · obtain rfl : n = vs.length := by omega
      have hfa : (ls.take vs.length).flatten = ls.flatten := by rw [HR.out.1, List.take_length]
      rw [hfa]
      have HFA := Lib.hid hfa
      clear hfa hC
      generalize hfl : ls.flatten.length = fl at *
      have HFL := Lib.hid hfl
      clear hfl
      go_wp2_with fail
      refine (grow_any fl hl _).mono ?_
      rintro e w1 ⟨v1, rfl, o1, C1⟩
      have HO := Lib.hid o1
      have HC := Lib.hid C1
      clear o1 C1
      obtain ⟨wo, hwo⟩ : ∃ wo, wo = wr := ⟨_, rfl⟩
      subst hwo
      go_wp2_with fail
      go_loopg [6, 27] vs.length (fun m nv ix wr => ∃ n : Nat, n + m = vs.length ∧ ix = .int .i64 n ∧ IsNew wo wr nv (ls.take n).flatten)
      case atStart => exact ⟨0, by omega, rfl, HO.out, HC.out⟩
      case round =>
        obtain ⟨n, hn, rfl, hI⟩ := hrel
        have HN := Lib.hid hn
        have hnl : n ≤ vs.length := by omega
        clear hn
        have hC := hI.2
        by_cases hlt : n < vs.length
        ·
          -- the slice at place n of the rows, read in world wr: x = .slice p l.length cap
          obtain ⟨x, hx⟩ : ∃ x, vs[n]? = some x := ⟨vs[n]'(by omega), by simp [show n < vs.length by omega]⟩
          obtain ⟨l, hl⟩ : ∃ l, ls[n]? = some l := ⟨ls[n]'(by have := HR.out.1; omega), by simp [show n < ls.length by have := HR.out.1; omega]⟩
          obtain ⟨S', hS'⟩ := (HR.out.chg0 hC).2 n x l hx hl
          obtain ⟨p', cap', rfl⟩ := hS'.form
          obtain ⟨-, pz, cz, e, hcz, hsz⟩ := HS.out.chg0 hC
          cases e
          obtain ⟨g, of, rfl, -, hg, hcell⟩ := hsz (by omega)
          have x0 := hcell n _ hx
          have hfn := flat_next hl
          have hle := flat_le ls (n + 1)
          rw [hfn, List.length_append] at hle
          have n0 : (0 : Int) ≤ n := by omega
          generalize hF : (ls.take n).flatten = F at *
          clear hF
          have HX := Lib.hid hfn
          clear hfn
          have oA := hI.1
          obtain ⟨pa, ca, e⟩ := oA.form
          subst e
          have one1 := icells_one l
          have b1 : F.length + l.length ≤ maxLen := by have := HFL.out; unfold maxLen; omega
          have b2 : (F.length + l.length) * 40 ≤ 140737488355328 := by have := HFL.out; omega
          have hob := oA.ownBlock
          obtain ⟨hi0, hz0, hz1, hz2⟩ := HI.out
          clear hI hsz hcell hx hl
          go_wp2_with (at_builtin; go_must (refine wpList_app rfl _ _ 23 rfl i0 _ 40 Try.underlying23 hi0 hz0 hz1 hz2 rfl rfl oA _ l.length _ rfl hS' one1 b1 b2 ?_))
          intro v2 w2 o2 g2 _
          have C2 := hC.grown g2 (fun k hk => .inr (hob k hk).1)
          have O2 : Own w2 (fun k => wo.heap.size ≤ k) 32 5 v2 (F.length + l.length) (icells F ++ icells l) := o2.mono fun k hk => hk.elim (fun h => (hob k h).1) (fun h => by have := hC.size; omega)
          rw [← icells_app, ← List.length_append] at O2
          have HO2 := Lib.hid O2
          have HC2 := Lib.hid C2
          clear oA hS' one1 b1 b2 hob hC o2 g2 C2 O2 hle hi0 hz0 hz1 hz2 x0
          go_wp2_with fail
          go_roundg (vs.length - (n + 1))
          case measure => have := HN.out; omega
          case rel => exact ⟨n + 1, by have := HN.out; omega, by go_num, by rw [HX.out]; exact ⟨HO2.out, HC2.out⟩⟩
        · obtain rfl : n = vs.length := by omega
          rw [HFA.out] at hI
          go_wp2_with fail
          go_ret
          exact ⟨_, rfl, hI⟩
end Go.Proofs.Ytdkplhdinklflaa
