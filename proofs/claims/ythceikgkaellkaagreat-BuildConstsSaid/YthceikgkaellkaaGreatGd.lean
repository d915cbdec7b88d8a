/- slices.Clone: what it answers. No condition. -/
import Derived.Test.YthceikgkaellkaaGreatProg
import Derived.Test.YthceikgkaellkaaGreatKit
set_option linter.unusedVariables false
namespace Go.Proofs.YthceikgkaellkaaGreat
open Go.RowKit Go.RR


theorem b_elem : (Tryz.prog.info? 5).map (fun i => (i.zero, i.size, i.bytes)) = some (some (.int .u8 0), 1, 1) := by kernel_rfl

set_option maxHeartbeats 400000 in
set_option maxRecDepth 100000 in
theorem b_clone (S : Nat → Prop) (v : Value) (n : Nat) (us : List Value) (w : World) (hs : Sl w S 1 v n us) (one : ∀ u ∈ us, u.oneCell' = true) (hn : n * 1 ≤ 140737488355328) (hm : n ≤ maxLen) :
    Calls Tryz.prog 109 #[v] w (RetV fun v' w' => Own w' (fun k => w.heap.size ≤ k) 5 1 v' n us ∧ Chg NoB w w') := by
  obtain ⟨i0, hi0, hz0, hz1, hz2⟩ := info_parts b_elem
  have hs' := hs
  obtain ⟨h1, p, cap, rfl, hcap, hc⟩ := hs
  have heq := fun w' => Lib.run_eql_slice_nil (P := Tryz.prog) w' 59 5 p n cap 0 0 Tryz.underlying59
  cases p with
  | none =>
    have h0 : n = 0 := by
      rcases Nat.eq_zero_or_pos n with h | h
      · exact h
      · obtain ⟨_, _, h, _⟩ := hc h; cases h
    subst h0
    obtain rfl : us = [] := List.eq_nil_of_length_eq_zero (by simpa using h1)
    clear hs' hc h1
    go_enter Tryz.func109, Tryz.ntmps109
    go_wp2
    go_ret
    exact ⟨_, rfl, Own.nil _ _ _ _, Chg.refl _ _⟩
  | some a =>
    have o1 : Own (w.alloc (.cells #[] 5)) (fun k => k = w.heap.size) 5 1 (.slice (some ⟨w.heap.size, 0, none⟩) 0 0) 0 [] := Own.fresh w [] 5 0 rfl (by unfold maxLen; omega)
    have s1 := hs'.chg0 ((Chg.refl NoB w).alloc (.cells #[] 5))
    have b1 : 0 + n ≤ maxLen := by omega
    have b2 : (0 + n) * 1 ≤ 140737488355328 := by rw [Nat.zero_add]; exact hn
    clear hs' hc h1
    go_enter Tryz.func109, Tryz.ntmps109
    go_wp2_with (at_builtin; go_must (refine wpList_app rfl _ _ 59 rfl i0 _ 1 Tryz.underlying59 hi0 hz0 hz1 hz2 rfl rfl o1 _ n _ rfl s1 one b1 b2 ?_))
    intro v2 w2 o2 g2 _
    replace o2 : Own w2 (fun k => w.heap.size ≤ k) 5 1 v2 n us := by simpa using o2.mono (S' := fun k => w.heap.size ≤ k) (fun k hk => by simp [Value.ownBlock] at hk; omega)
    have C2 : Chg NoB w w2 := ((Chg.refl NoB w).alloc _).grown g2 (fun k hk => .inr (by simp [Value.ownBlock] at hk; omega))
    clear o1 s1 g2
    go_wp2
    go_ret
    exact ⟨_, rfl, o2, C2⟩
end Go.Proofs.YthceikgkaellkaaGreat
