/- What cores reckon: reckon. No condition but that complex numbers are reckoned by some function. Cores: jump. No condition. -/
import Derived.Test.YtleilfkcjollaaaGreatHb
set_option linter.unusedVariables false
set_option linter.unusedSimpArgs false
namespace Go.Proofs.YtleilfkcjollaaaGreat
open Go.RowKit Go.RR
end Go.Proofs.YtleilfkcjollaaaGreat
set_option linter.unusedVariables false
set_option linter.unusedSimpArgs false
namespace Go.Proofs.YtleilfkcjollaaaGreat
open Go.RowKit Go.RR
structure In.Ok (i : In) : Prop where
  d0 : 0 ≤ i.rd
  d1 : i.rd ≤ 15
  s0 : 0 ≤ i.rs
  s1 : i.rs ≤ 15
  t0 : 0 ≤ i.rt
  t1 : i.rt ≤ 15
  i0 : -2048 ≤ i.im
  i1 : i.im ≤ 2047
  k : kd i.op ≠ .z
  o0 : 0 ≤ i.op
  o1 : i.op ≤ 34
theorem okr_in {r : Int} {h : Bool} (e : okr r h = true) : 0 ≤ r ∧ r ≤ 15 := by
  unfold okr at e
  simp only [Bool.and_eq_true, decide_eq_true_eq] at e
  exact ⟨e.1.2, e.2⟩
theorem In.ok {i : In} (h : rightB i = true) : i.Ok := by
  unfold rightB at h
  simp only [Bool.and_eq_true, decide_eq_true_eq, Bool.not_eq_true', decide_eq_false_iff_not] at h
  obtain ⟨⟨⟨⟨⟨⟨h1, h2⟩, h3⟩, h4⟩, h5⟩, h6⟩, h7⟩ := h
  have hd := okr_in h4
  have hs := okr_in h5
  have ht := okr_in h6
  refine ⟨hd.1, hd.2, hs.1, hs.2, ht.1, ht.2, h2, h3, h1, ?_, ?_⟩
  · by_cases e : i.op < 0
    · exact absurd (kd_neg e) h1
    · omega
  · by_cases e : 35 ≤ i.op
    · exact absurd (kd_big e) h1
    · omega
/-- A register's cell, whatever has been made since. -/
theorem CoreAt.ever {w : World} {cb : Nat} {c : Cor} (h : CoreAt w cb c) {n : Nat} (hn : n < 16) : ∀ w', Chg NoB w w' → w'.cell? ⟨cb, n, none⟩ = some (.int .u64 (c.r n)) := fun w' k => (h.chg k id).reg hn
end Go.Proofs.YtleilfkcjollaaaGreat
