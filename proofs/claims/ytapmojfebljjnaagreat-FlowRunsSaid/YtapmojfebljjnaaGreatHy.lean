/- Programs that run come to places that they may come to, and not too often. Plain, no program. No condition. -/
import Derived.Test.YtapmojfebljjnaaGreatHp
import Derived.Test.YtapmojfebljjnaaGreatHu
set_option linter.unusedVariables false
set_option linter.unusedSimpArgs false
namespace Go.Proofs.YtapmojfebljjnaaGreat
open Go.RowKit Go.RR
theorem endF_at {n : Nat} {x : Int} (h0 : 0 ≤ x) (h1 : x ≤ n) : endF n x = x := by unfold endF; rw [if_neg (by omega)]
theorem next_goes {l : List In} {n : Nat} {i : In} (hi : l[n]? = some i) (ho : i.Ok) (hn : n < 1000) (h0 : i.op ≠ 0) {pc' : Nat} (h : Goes i (65536 + 4 * n) pc') :
    pc' < 65536 ∨ ∃ m, pc' = 65536 + 4 * m ∧ (l.length ≤ m ∨ (m < l.length ∧ m ∈ nxN l n)) := by
  have hnl : n < l.length := by
    by_cases hk : n < l.length
    · exact hk
    · rw [List.getElem?_eq_none (by omega)] at hi; cases hi
  have i0 := ho.i0
  have i1 := ho.i1
  have plain : ∀ pc', pc' = (65536 + 4 * n + 4) % 18446744073709551616 → (((n : Int) + 1) ∈ nextF l n) → pc' < 65536 ∨ ∃ m, pc' = 65536 + 4 * m ∧ (l.length ≤ m ∨ (m < l.length ∧ m ∈ nxN l n)) := fun pc' e hm => by
    refine .inr ⟨n + 1, by omega, ?_⟩
    by_cases hl : n + 1 < l.length
    · exact .inr ⟨hl, List.mem_map.2 ⟨(n : Int) + 1, hm, by omega⟩⟩
    · exact .inl (by omega)
  have jump : ∀ pc', pc' = (65536 + 4 * n + uof i.im * 4) % 18446744073709551616 → (∀ x : Int, x = n + i.im → 0 ≤ x → x < l.length → x ∈ nextF l n) → pc' < 65536 ∨ ∃ m, pc' = 65536 + 4 * m ∧ (l.length ≤ m ∨ (m < l.length ∧ m ∈ nxN l n)) := fun pc' e hm => by
    have hu : ((uof i.im : Nat) : Int) = i.im % 18446744073709551616 := by unfold uof; omega
    have hp : (pc' : Int) = 65536 + 4 * ((n : Int) + i.im) := by omega
    by_cases hneg : (n : Int) + i.im < 0
    · exact .inl (by omega)
    · refine .inr ⟨((n : Int) + i.im).toNat, by omega, ?_⟩
      by_cases hl : (n : Int) + i.im < l.length
      · exact .inr ⟨by omega, List.mem_map.2 ⟨_, hm _ rfl (by omega) hl, rfl⟩⟩
      · exact .inl (by omega)
  rw [nextF_at hi] at plain jump
  unfold follow at plain jump
  by_cases hJ : kd i.op = .J
  · rw [if_pos hJ] at jump
    refine jump pc' (h.1 hJ) fun x e h1 h2 => ?_
    rw [← e, endF_at h1 (by omega)]
    simp
  · by_cases hB : kd i.op = .B
    · rw [if_neg hJ, if_pos hB] at plain jump
      rcases h.2.1 hB with e | e
      · refine jump pc' e fun x e h1 h2 => ?_
        rw [← e, endF_at h1 (by omega)]
        split
        · simp
        · split <;> simp
      · refine plain pc' e ?_
        have he := endF_in l.length (n + i.im)
        split
        · simp
        · split
          · simp
          · rw [List.mem_singleton]; omega
    · rw [if_neg hJ, if_neg hB, if_neg h0] at plain
      exact plain pc' (h.2.2 hJ hB) (by simp)
/-- What is known of each place's longest way, where no way meets itself. -/
theorem long_memo (l : List In) (h : loopF (nxN l) l.length = false) : ∃ m : Memo, longF l ≤ l.length ∧ (0 < l.length → m 0 = some (longF l) ∧ 1 ≤ longF l) ∧ 0 ≤ longF l ∧
    ∀ q y, m q = some y → 1 ≤ y → ∀ n ∈ nxN l q, n < l.length → ∃ z, m n = some z ∧ 1 ≤ z ∧ z + 1 ≤ y := by
  have hI0 : Inv (nxN l) l.length (fun _ => none) := fun q x h => by cases h
  obtain ⟨hb1, hb2⟩ := lng_best (nx := nxN l) (N := l.length) (fun p hp => nxN_le hp)
  obtain ⟨⟨w1, -⟩, w3⟩ := lng_of (nx := nxN l) (N := l.length) (l.length + 1) (fun _ => none) 0 hI0 (by omega)
  have hL : longF l = (lng (nxN l) l.length (l.length + 1) ((fun _ => none), false) 0).1 := by
    rw [hb2 h]
    unfold longF
    rw [h, if_neg (by simp)]
  rw [h] at hb1
  obtain ⟨-, k2, k3, k4⟩ := w1 hb1
  have w3 := w3 hb1
  rw [← hL] at w3
  generalize (lng (nxN l) l.length (l.length + 1) ((fun _ => none), false) 0).2.1 = m at *
  have start : 0 < l.length → m 0 = some (longF l) ∧ 1 ≤ longF l := fun hp => by
    obtain ⟨x, hx, h1⟩ := k4 0 (by simp) hp
    unfold val at w3
    rw [if_neg (by omega), hx] at w3
    have w3 : longF l = x := w3
    exact ⟨by rw [w3]; exact hx, by omega⟩
  have bound : longF l ≤ l.length ∧ 0 ≤ longF l := by
    by_cases hp : 0 < l.length
    · obtain ⟨h1, h2⟩ := start hp
      obtain ⟨-, h3⟩ := k2 _ _ h1
      have := dn_max (N := l.length) m
      rcases h3 with h3 | ⟨-, h3, -⟩ <;> omega
    · unfold val at w3
      rw [if_pos (by omega)] at w3
      omega
  refine ⟨m, bound.1, start, bound.2, fun q y hq hy n hn hN => ?_⟩
  obtain ⟨-, h3⟩ := k2 q y hq
  rcases h3 with h3 | ⟨-, -, h3, -⟩
  · omega
  · obtain ⟨z, z1, z2, z3⟩ := h3 n hn hN
    exact ⟨z, z1, z2, by omega⟩
theorem reach_zero (l : List In) : mk (fromF (nxN l) l.length [0]) 0 = true := (fromF_iff (fun p hp => nxN_le hp) (by simp) 0).2 (.start (by simp))
theorem reach_next {l : List In} {p n : Nat} (h : mk (fromF (nxN l) l.length [0]) p = true) (hp : p < l.length) (hn : n ∈ nxN l p) : mk (fromF (nxN l) l.length [0]) n = true :=
  (fromF_iff (fun p hp => nxN_le hp) (by simp) n).2 (.step ((fromF_iff (fun p hp => nxN_le hp) (by simp) p).1 h) hp hn)
/-- How far a run has come: at which place, how many instructions done. -/
structure Came (l : List In) (m : Memo) (pc done : Nat) : Prop where
  at' : pc < 65536 ∨ ∃ p, pc = 65536 + 4 * p ∧ p < 5000 ∧ (p < l.length → mk (fromF (nxN l) l.length [0]) p = true)
  le : loopF (nxN l) l.length = false → (done : Int) ≤ longF l
  pot : loopF (nxN l) l.length = false → ∀ p, pc = 65536 + 4 * p → p < l.length → ∃ y, m p = some y ∧ 1 ≤ y ∧ (done : Int) + y ≤ longF l
theorem came_start (l : List In) : ∃ m : Memo, Came l m 65536 0 ∧ (loopF (nxN l) l.length = false → longF l ≤ l.length ∧ ∀ q y, m q = some y → 1 ≤ y → ∀ n ∈ nxN l q, n < l.length → ∃ z, m n = some z ∧ 1 ≤ z ∧ z + 1 ≤ y) := by
  cases h : loopF (nxN l) l.length with
  | true => exact ⟨fun _ => none, ⟨.inr ⟨0, rfl, by omega, fun _ => reach_zero l⟩, fun e => (by rw [h] at e; cases e), fun e => (by rw [h] at e; cases e)⟩, fun e => by cases e⟩
  | false =>
    obtain ⟨m, h1, h2, h3, h4⟩ := long_memo l h
    refine ⟨m, ⟨.inr ⟨0, rfl, by omega, fun _ => reach_zero l⟩, fun _ => h3, fun _ p hp hl => ?_⟩, fun _ => ⟨h1, h4⟩⟩
    obtain rfl : p = 0 := by omega
    obtain ⟨a, b⟩ := h2 hl
    exact ⟨_, a, b, by show ((0 : Nat) : Int) + _ ≤ _; omega⟩
theorem came_le {l : List In} {m : Memo} {p done : Nat} (h : Came l m (65536 + 4 * p) done) (hp : p < l.length) : loopF (nxN l) l.length = false → ((done + 1 : Nat) : Int) ≤ longF l := fun e => by
  obtain ⟨y, -, h1, h2⟩ := h.pot e p rfl hp
  omega
theorem came_next {l : List In} {m : Memo} (hm : loopF (nxN l) l.length = false → longF l ≤ l.length ∧ ∀ q y, m q = some y → 1 ≤ y → ∀ n ∈ nxN l q, n < l.length → ∃ z, m n = some z ∧ 1 ≤ z ∧ z + 1 ≤ y) (hN : l.length ≤ 40) {p done : Nat} (h : Came l m (65536 + 4 * p) done) {i : In} (hi : l[p]? = some i) (ho : i.Ok) (h0 : i.op ≠ 0) {pc' : Nat} (hg : Goes i (65536 + 4 * p) pc') : Came l m pc' (done + 1) := by
  have hp : p < l.length := by
    by_cases hk : p < l.length
    · exact hk
    · rw [List.getElem?_eq_none (by omega)] at hi; cases hi
  have hr : mk (fromF (nxN l) l.length [0]) p = true := by
    rcases h.at' with h1 | ⟨q, h1, -, h2⟩
    · omega
    · obtain rfl : p = q := by omega
      exact h2 hp
  have i0 := ho.i0
  have i1 := ho.i1
  have hle := came_le h hp
  have hg2 := next_goes hi ho (by omega) h0 hg
  refine ⟨?_, hle, fun e q hq hl => ?_⟩
  · rcases hg2 with h1 | ⟨q, h1, h2⟩
    · exact .inl h1
    · refine .inr ⟨q, h1, ?_, fun hl => ?_⟩
      · have hu : ((uof i.im : Nat) : Int) = i.im % 18446744073709551616 := by unfold uof; omega
        by_cases hJ : kd i.op = .J
        · have := hg.1 hJ; omega
        · by_cases hB : kd i.op = .B
          · rcases hg.2.1 hB with e | e <;> omega
          · have := hg.2.2 hJ hB; omega
      · rcases h2 with h2 | h2
        · omega
        · exact reach_next hr hp h2.2
  · obtain ⟨y, h1, h2, h3⟩ := h.pot e p rfl hp
    rcases hg2 with h4 | ⟨q', h4, h5⟩
    · omega
    · obtain rfl : q = q' := by omega
      rcases h5 with h5 | h5
      · omega
      · obtain ⟨z, z1, z2, z3⟩ := (hm e).2 p y h1 h2 q h5.2 h5.1
        exact ⟨z, z1, z2, by omega⟩
/-- One instruction that was tried. -/
theorem try_came {l : List In} {m : Memo} (hm : loopF (nxN l) l.length = false → longF l ≤ l.length ∧ ∀ q y, m q = some y → 1 ≤ y → ∀ n ∈ nxN l q, n < l.length → ∃ z, m n = some z ∧ 1 ≤ z ∧ z + 1 ≤ y) (hN : l.length ≤ 40) (hri : ∀ i ∈ l, rightB i = true) {s : Spc} (hR : RunIn s l) {c : Cor} (hc : c.run = 0) {p done : Nat} (hpc : c.pc = 65536 + 4 * p) (hp : p < l.length) (h : Came l m c.pc done) {pick : Int} {O : DidP × Cor × Mu} (hO : ∃ X, O = tryF X c s.u pick) :
    RunIn { s with u := O.2.2 } l ∧ (O.1.done = true → (O.2.1.run = 1 ∧ (loopF (nxN l) l.length = false → ((done + 1 : Nat) : Int) ≤ longF l)) ∨ (O.2.1.run = 0 ∧ Came l m O.2.1.pc (done + 1))) := by
  obtain ⟨X, rfl⟩ := hO
  have hi : l[p]? = some l[p] := List.getElem?_eq_getElem hp
  have hok := In.ok (hri _ (List.mem_of_getElem? hi))
  obtain ⟨⟨t1, t0, hs⟩, hpr⟩ := hR
  obtain ⟨b, hb, e⟩ := try_prog X hs hpr hri hi hc hpc pick
  rw [e]
  have hR2 : RunIn { s with u := { s.u with tlb := b } } l := RunIn.tlb ⟨⟨t1, t0, hs⟩, hpr⟩ hb
  refine ⟨do_run X hR2 c l[p] pick, fun hd => ?_⟩
  rw [hpc] at h
  rcases do_goes X c _ hok pick hd with ⟨-, h2⟩ | ⟨h1, h2, h3⟩
  · exact .inl ⟨h2, came_le h hp⟩
  · rw [hpc] at h3
    exact .inr ⟨h2.trans hc, came_next hm hN h hi hok h1 h3⟩
end Go.Proofs.YtapmojfebljjnaaGreat
