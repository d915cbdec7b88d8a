/- What any instruction of a program leaves of a space: programs stay. Plain, no program. No condition. -/
import Derived.Test.YtapmojfebljjnaaGreatHd
set_option linter.unusedVariables false
set_option linter.unusedSimpArgs false
namespace Go.Proofs.YtapmojfebljjnaaGreat
open Go.RowKit Go.RR
/-- Frames that may be written hold no program. -/
theorem check_w {s : Spc} {t1 t0 : Nat → Option Nat} (h : SpInv s t1 t0) {v : Nat} {p : Pte} (hl : s.lf v = some p) (hc : checkB p 2 s.u.mode = true) : p.ppn ∈ s.own ++ s.shared.map (·.2) := by
  rw [h.mode] at hc
  unfold Spc.lf at hl
  split at hl
  · cases hl
    exact absurd (show checkB (codeP (s.code.getD (v - 16) 0)) 2 ⟨true, false, false⟩ = false from rfl) (by rw [hc]; simp)
  · split at hl
    · rename_i hv
      cases hl
      refine List.mem_append_left _ ?_
      show s.own.getD (v - 32) 0 ∈ s.own
      rw [List.getD_eq_getElem?_getD, List.getElem?_eq_getElem (by omega)]
      exact List.getElem_mem _
    · split at hl
      · rename_i hr
        obtain ⟨f, hf⟩ := Option.isSome_iff_exists.1 (h.rf _ hr.2)
        rw [hf] at hl
        have hm : f ∈ s.shared.map (·.2) := by
          unfold frameOf at hf
          rw [Option.map_eq_some_iff] at hf
          obtain ⟨x, hx, rfl⟩ := hf
          exact List.mem_map.2 ⟨x, List.mem_of_find?_eq_some hx, rfl⟩
        refine List.mem_append_right _ ?_
        split at hl <;> (cases hl; exact hm)
      · cases hl
theorem leaf_gen {s : Spc} {t1 t0 : Nat → Option Nat} (h : SpInv s t1 t0) (va : Nat) {a : Int} (pick : Int) (ha : a = 0 ∨ a = 1 ∨ a = 2) :
    ∃ r b, leafF s.u va a pick = (r, b) ∧ Coh b s.lf ∧ (r.2 = -1 → s.lf (vpn va) = some r.1.p ∧ r.1.level = 0) := by
  have hp : pageC a ≠ -1 := by rcases ha with rfl | rfl | rfl <;> decide
  cases hc : canonB va with
  | true =>
    obtain ⟨l1, l2⟩ := leaf_uo h.un hc a pick
    cases hl : s.lf (vpn va) with
    | none => exact ⟨_, _, l1 hl, h.coh, fun e => absurd e hp⟩
    | some p =>
      obtain ⟨l, b, e, rfl, e2, e3⟩ := l2 p hl
      exact ⟨_, _, e, e3, fun _ => ⟨rfl, e2⟩⟩
  | false =>
    unfold leafF
    cases e : tlbFind s.u.tlb va s.u.satp.asid with
    | some l => exact ⟨_, _, rfl, h.coh, fun _ => ⟨(tlbFind_coh h.coh e).2, (tlbFind_coh h.coh e).1⟩⟩
    | none =>
      have hf : findS s.u va = (Leaf.zero, 51) := by
        unfold findS findF
        rw [h.sat, hc]
        rfl
      rw [hf]
      exact ⟨_, _, rfl, h.coh, fun e => absurd e hp⟩
theorem place_gen {s : Spc} {t1 t0 : Nat → Option Nat} (h : SpInv s t1 t0) (va : Nat) (size : Int) {a : Int} (pick : Int) (ha : a = 0 ∨ a = 1 ∨ a = 2) :
    ∃ r b, placeF s.u va size a pick = (r, b) ∧ Coh b s.lf ∧ (r.2 = -1 → ∃ p, s.lf (vpn va) = some p ∧ checkB p a s.u.mode = true ∧ r.1 = p.ppn * 4096 + va % 4096 ∧ sizeB size = true ∧ va % size.toNat = 0) := by
  have hp : pageC a ≠ -1 := by rcases ha with rfl | rfl | rfl <;> decide
  have hb : boundC a ≠ -1 := by rcases ha with rfl | rfl | rfl <;> decide
  have hal : alignC a ≠ -1 := by rcases ha with rfl | rfl | rfl <;> decide
  obtain ⟨⟨l, c⟩, b, e, h1, h2⟩ := leaf_gen h va pick ha
  unfold placeF
  cases hq : alignedB va size with
  | false => exact ⟨_, _, rfl, h.coh, fun e => absurd e hal⟩
  | true =>
    rw [e]
    unfold alignedB at hq
    rw [Bool.and_eq_true, decide_eq_true_eq] at hq
    simp only [Bool.not_true, Bool.false_eq_true, if_false]
    by_cases hc : c = -1
    · subst hc
      obtain ⟨h3, h4⟩ := h2 rfl
      dsimp only at h3 h4
      have hpp := h.un.pp _ _ (vpn_lt va) h3
      have hfr := h.fr
      cases hk : checkB l.p a s.u.mode with
      | false =>
        simp only [ne_eq, not_true_eq_false, if_false, Bool.not_false, if_true]
        exact ⟨_, _, rfl, h1, fun e => absurd e hp⟩
      | true =>
        simp only [ne_eq, not_true_eq_false, if_false, Bool.not_true, Bool.false_eq_true, h4]
        rw [join_zero (by omega), if_neg (by omega)]
        exact ⟨_, _, rfl, h1, fun _ => ⟨l.p, h3, hk, rfl, hq.1, hq.2⟩⟩
    · simp only [ne_eq, hc, not_false_eq_true, if_true]
      exact ⟨_, _, rfl, h1, fun e => absurd e hc⟩
/-- A space that is right, and a program in it. -/
def RunIn (s : Spc) (l : List In) : Prop := (∃ t1 t0, SpInv s t1 t0) ∧ HasProg s l
theorem HasProg.tlb {s : Spc} {l : List In} (h : HasProg s l) (b : Tlb) : HasProg { s with u := { s.u with tlb := b } } l := ⟨h.len, h.at'⟩
theorem RunIn.tlb {s : Spc} {l : List In} (h : RunIn s l) {b : Tlb} (hb : Coh b s.lf) : RunIn { s with u := { s.u with tlb := b } } l := by
  obtain ⟨⟨t1, t0, h1⟩, h2⟩ := h
  exact ⟨⟨t1, t0, h1.tlb hb⟩, h2.tlb b⟩
theorem RunIn.put {s : Spc} {l : List In} (h : RunIn s l) {f : Nat} (hf : f ∈ s.own ++ s.shared.map (·.2)) {o n : Nat} (ho : o + n ≤ 4096) (v : Nat) : RunIn { s with u := { s.u with b := putW s.u.b (f * 4096 + o) n v } } l := by
  obtain ⟨⟨t1, t0, h1⟩, h2⟩ := h
  have hm : f ∈ s.frames := by unfold Spc.frames; rw [List.append_assoc]; exact List.mem_append_right _ hf
  have hnc : f ∉ s.code := fun hc => by
    have := h1.nd
    unfold Spc.frames at this
    rw [List.append_assoc, List.nodup_append] at this
    exact this.2.2 f hc f hf rfl
  have hout : ∀ a, a / 4096 ≠ f → putW s.u.b (f * 4096 + o) n v a = s.u.b a := fun a ha => putW_out (by omega)
  refine ⟨⟨t1, t0, h1.bytes fun a ha => hout a fun e => (h1.ft f hm).2 (e ▸ ha)⟩, h2.len, fun k i e => ?_⟩
  have hk : k < l.length := by
    by_cases hk : k < l.length
    · exact hk
    · rw [List.getElem?_eq_none (by omega)] at e; cases e
  have := h2.len
  rw [← h2.at' k i e]
  have hcm : s.code.getD (4 * k / 4096) 0 ∈ s.code := by
    rw [List.getD_eq_getElem?_getD, List.getElem?_eq_getElem (by omega)]
    exact List.getElem_mem _
  rw [show codeAt { s with u := { s.u with b := putW s.u.b (f * 4096 + o) n v } } (4 * k) = codeAt s (4 * k) from rfl, codeAt_eq]
  exact getW_congr 4 _ fun a e1 e2 => hout a fun e => hnc (by rw [← e, show a / 4096 = s.code.getD (4 * k / 4096) 0 by omega]; exact hcm)
theorem size_fits {va : Nat} {size : Int} (h : sizeB size = true) (ha : va % size.toNat = 0) : va % 4096 + size.toNat ≤ 4096 := by
  rcases sizeB_of h with rfl | rfl | rfl | rfl
  · omega
  · have : va % 2 = 0 := ha
    show va % 4096 + 2 ≤ 4096
    omega
  · have : va % 4 = 0 := ha
    show va % 4096 + 4 ≤ 4096
    omega
  · have : va % 8 = 0 := ha
    show va % 4096 + 8 ≤ 4096
    omega
theorem read_run {s : Spc} {l : List In} (h : RunIn s l) (va : Nat) (size : Int) {a : Int} (pick : Int) (ha : a = 0 ∨ a = 1 ∨ a = 2) : RunIn { s with u := (readF s.u va size a pick).2 } l := by
  obtain ⟨⟨t1, t0, h1⟩, h2⟩ := h
  obtain ⟨r, b, e, hb, -⟩ := place_gen h1 va size pick ha
  have e2 : (readF s.u va size a pick).2 = { s.u with tlb := b } := by
    unfold readF
    rw [e]
    dsimp only
    split <;> rfl
  rw [e2]
  exact RunIn.tlb ⟨⟨t1, t0, h1⟩, h2⟩ hb
theorem store_run {s : Spc} {l : List In} (h : RunIn s l) (va : Nat) (size : Int) (v : Nat) (pick : Int) : RunIn { s with u := (storeF s.u va size v pick).2 } l := by
  obtain ⟨⟨t1, t0, h1⟩, h2⟩ := h
  obtain ⟨r, b, e, hb, hp⟩ := place_gen h1 va size pick (a := 2) (.inr (.inr rfl))
  unfold storeF
  rw [e]
  dsimp only
  split
  · exact RunIn.tlb ⟨⟨t1, t0, h1⟩, h2⟩ hb
  · rename_i hr
    obtain ⟨p, e1, e2, e3, e4, e5⟩ := hp (by omega)
    rw [e3]
    exact RunIn.put (RunIn.tlb ⟨⟨t1, t0, h1⟩, h2⟩ hb) (check_w h1 e1 e2) (size_fits e4 e5) v
theorem swap_run {s : Spc} {l : List In} (h : RunIn s l) (va : Nat) (size : Int) (g : Nat → Nat) (pick : Int) : RunIn { s with u := (swapF s.u va size g pick).2 } l := by
  obtain ⟨⟨t1, t0, h1⟩, h2⟩ := h
  obtain ⟨r, b, e, hb, hp⟩ := place_gen h1 va size pick (a := 2) (.inr (.inr rfl))
  unfold swapF
  rw [e]
  dsimp only
  split
  · exact RunIn.tlb ⟨⟨t1, t0, h1⟩, h2⟩ hb
  · rename_i hr
    obtain ⟨p, e1, e2, e3, e4, e5⟩ := hp (by omega)
    rw [e3]
    exact RunIn.put (RunIn.tlb ⟨⟨t1, t0, h1⟩, h2⟩ hb) (check_w h1 e1 e2) (size_fits e4 e5) _
theorem over_run {s : Spc} {l : List In} (h : RunIn s l) (c : Cor) (i : In) (pick : Int) : RunIn { s with u := (overF c s.u i pick).2.2 } l := by
  unfold overF
  dsimp only
  split
  · split <;> exact read_run h _ _ _ (.inr (.inl rfl))
  · split
    · split <;> exact store_run h _ _ _ _
    · split <;> exact swap_run h _ _ _ _
theorem do_run (X : Cx) {s : Spc} {l : List In} (h : RunIn s l) (c : Cor) (i : In) (pick : Int) : RunIn { s with u := (doF X c s.u i pick).2.2 } l := by
  unfold doF
  dsimp only
  split
  · exact over_run h c i pick
  · split
    · exact h
    · split
      · exact h
      · split <;> exact h
/-- Where the next instruction is. -/
def Goes (i : In) (pc pc' : Nat) : Prop :=
  (kd i.op = .J → pc' = (pc + uof i.im * 4) % 18446744073709551616) ∧ (kd i.op = .B → pc' = (pc + uof i.im * 4) % 18446744073709551616 ∨ pc' = (pc + 4) % 18446744073709551616) ∧ (kd i.op ≠ .J → kd i.op ≠ .B → pc' = (pc + 4) % 18446744073709551616)
theorem kd_J {o : Int} (h0 : 0 ≤ o) (h1 : o ≤ 34) (h : kd o = .J) : o = 18 := by
  obtain ⟨n, rfl⟩ : ∃ n : Nat, o = n := ⟨o.toNat, by omega⟩
  have hn : n < 35 := by omega
  have : ∀ n : Nat, n < 35 → kd n = .J → n = 18 := by decide
  have := this n hn h
  omega
theorem set_run (c : Cor) (n : Int) (v : Nat) : (c.set n v).run = c.run := by unfold Cor.set; split <;> rfl
theorem set_pc' (c : Cor) (n : Int) (v : Nat) : (c.set n v).pc = c.pc := by unfold Cor.set; split <;> rfl
theorem do_goes (X : Cx) (c : Cor) (u : Mu) {i : In} (hi : i.Ok) (pick : Int) (hd : (doF X c u i pick).1.done = true) :
    (i.op = 0 ∧ (doF X c u i pick).2.1.run = 1) ∨ (i.op ≠ 0 ∧ (doF X c u i pick).2.1.run = c.run ∧ Goes i c.pc (doF X c u i pick).2.1.pc) := by
  have h18 := fun e => kd_J hi.o0 hi.o1 e
  revert hd
  unfold doF
  dsimp only
  by_cases hm : kd i.op = .L ∨ kd i.op = .S ∨ kd i.op = .A
  · rw [if_pos hm]
    have h0 : i.op ≠ 0 := fun e => by rw [e] at hm; exact absurd hm (by decide)
    have g : ∀ pc', pc' = (c.pc + 4) % 18446744073709551616 → Goes i c.pc pc' := fun pc' e => ⟨fun k => by rw [k] at hm; simp at hm, fun k => by rw [k] at hm; simp at hm, fun _ _ => e⟩
    unfold overF
    dsimp only
    split
    · split
      · exact fun hd => by cases hd
      · exact fun _ => .inr ⟨h0, set_run _ _ _, g _ rfl⟩
    · split
      · split
        · exact fun hd => by cases hd
        · exact fun _ => .inr ⟨h0, rfl, g _ rfl⟩
      · split
        · exact fun hd => by cases hd
        · exact fun _ => .inr ⟨h0, set_run _ _ _, g _ rfl⟩
  · rw [if_neg hm]
    by_cases hj : kd i.op = .B ∨ kd i.op = .J
    · rw [if_pos hj]
      intro _
      have h0 : i.op ≠ 0 := fun e => by rw [e] at hj; exact absurd hj (by decide)
      refine .inr ⟨h0, ?_, ?_⟩
      · unfold jumpF
        dsimp only
        split
        · exact set_run _ _ _
        · rfl
      · have e : (jumpF c i).pc = if takenB i.op (c.r i.rs.toNat) (c.r i.rt.toNat) then (c.pc + uof i.im * 4) % 18446744073709551616 else (c.pc + 4) % 18446744073709551616 := by
          unfold jumpF
          dsimp only
          split
          · exact set_pc' _ _ _
          · rfl
        dsimp only
        rw [e]
        refine ⟨fun k => ?_, fun k => ?_, fun k1 k2 => ?_⟩
        · rw [h18 k]; exact if_pos rfl
        · split
          · exact .inl rfl
          · exact .inr rfl
        · rcases hj with hj | hj
          · exact absurd hj k2
          · exact absurd hj k1
    · rw [if_neg hj]
      have g : ∀ pc', pc' = (c.pc + 4) % 18446744073709551616 → Goes i c.pc pc' := fun pc' e => ⟨fun k => absurd (.inr k) hj, fun k => absurd (.inl k) hj, fun _ _ => e⟩
      by_cases hN : kd i.op = .N ∧ i.op = 0
      · rw [if_pos hN]
        exact fun _ => .inl ⟨hN.2, rfl⟩
      · rw [if_neg hN]
        have h0 : i.op ≠ 0 := fun e => hN ⟨by rw [e]; rfl, e⟩
        split
        · exact fun _ => .inr ⟨h0, rfl, g _ rfl⟩
        · exact fun _ => .inr ⟨h0, set_run _ _ _, g _ rfl⟩
end Go.Proofs.YtapmojfebljjnaaGreat
