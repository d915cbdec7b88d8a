/- Words stored into shared pages, and what a core makes of them. Plain, no program. No condition. Programs without memory: what a core makes of them, instruction by instruction. Plain, no program. No condition. A piece is run from registers on. No condition. -/
import Derived.Test.YthceikgkaellkaaGreatHi
import Derived.Test.YthceikgkaellkaaGreatHm
import Derived.Test.YthceikgkaellkaaGreatHp
import Derived.Deep.RegionHeld3
set_option linter.unusedVariables false
set_option linter.unusedSimpArgs false
namespace Go.Proofs.YthceikgkaellkaaGreat
open Go.RowKit Go.RR
end Go.Proofs.YthceikgkaellkaaGreat
set_option linter.unusedVariables false
set_option linter.unusedSimpArgs false
namespace Go.Proofs.YthceikgkaellkaaGreat
open Go.RowKit Go.RR
/-- Neither memory nor complex numbers. -/
def pureI (i : In) : Bool := decide (kd i.op ≠ .L) && (decide (kd i.op ≠ .S) && (decide (kd i.op ≠ .A) && !(decide (10 ≤ i.op) && decide (i.op ≤ 14))))
def coreF (c : Cor) (i : In) : Cor :=
  if kd i.op = .B ∨ kd i.op = .J then jumpF c i
  else if kd i.op = .N ∧ i.op = 0 then { c with run := 1 }
  else if kd i.op = .N then { c with pc := (c.pc + 4) % 18446744073709551616 }
  else { (c.set i.rd (reckonF nilCx i (c.r i.rs.toNat) (c.r i.rt.toNat))) with pc := (c.pc + 4) % 18446744073709551616 }
theorem pureI_iff {i : In} (h : pureI i = true) : ¬ (kd i.op = .L ∨ kd i.op = .S ∨ kd i.op = .A) ∧ CxFor nilCx i.op := by
  unfold pureI at h
  simp only [Bool.and_eq_true, decide_eq_true_eq, Bool.not_eq_true', Bool.and_eq_false_iff, decide_eq_false_iff_not] at h
  obtain ⟨h1, h2, h3, h4⟩ := h
  exact ⟨fun e => e.elim h1 fun e => e.elim h2 h3, fun e => by rcases h4 with h4 | h4 <;> omega⟩
theorem do_pure {i : In} (h : pureI i = true) (c : Cor) (u : Mu) (pick : Int) : doF nilCx c u i pick = (⟨true, i, c.pc, -1, 0, 0, 0, 0, 0⟩, coreF c i, u) := by
  unfold doF coreF
  rw [if_neg (pureI_iff h).1]
  dsimp only
  split
  · rfl
  · split
    · rfl
    · split <;> rfl
/-- The instruction at a pc. -/
def atP (q : List In) (pc : Nat) : Option In := if 65536 ≤ pc ∧ (pc - 65536) % 4 = 0 then q[(pc - 65536) / 4]? else none
theorem atP_pc {q : List In} {pc : Nat} {i : In} (h : atP q pc = some i) : ∃ k, pc = 65536 + 4 * k ∧ q[k]? = some i := by
  unfold atP at h
  split at h
  · rename_i e
    exact ⟨(pc - 65536) / 4, by omega, h⟩
  · cases h
theorem try_pure {s : Spc} {t1 t0 : Nat → Option Nat} (h : SpInv s t1 t0) {q : List In} (hp : HasProg s q) (hr : ∀ i ∈ q, rightB i = true) {c : Cor} (hc : c.run = 0) {i : In} (hi : atP q c.pc = some i) (hpu : pureI i = true) :
    ∃ b, Coh b s.lf ∧ tryF nilCx c s.u 0 = (⟨true, i, c.pc, -1, 0, 0, 0, 0, 0⟩, coreF c i, { s.u with tlb := b }) ∧ (∀ j, instG (readF s.u c.pc 4 0 0).1.1 = some j → CxFor nilCx j.op) := by
  obtain ⟨k, hpc, hk⟩ := atP_pc hi
  obtain ⟨b, hb, e⟩ := try_prog nilCx h hp hr hk hc hpc 0
  refine ⟨b, hb, e.trans (do_pure hpu c _ 0), fun j hj => ?_⟩
  obtain ⟨b', -, e'⟩ := fetch_prog h hp hk 0
  rw [hpc, e', instG_W (hr i (List.mem_of_getElem? hk))] at hj
  cases hj
  exact (pureI_iff hpu).2
/-- At most n instructions, till the core stops. -/
def runC (q : List In) : Nat → Cor → Option Cor
  | 0, c => some c
  | n + 1, c => match atP q c.pc with
    | none => none
    | some i => if pureI i = true then (if (coreF c i).run = 0 then runC q n (coreF c i) else some (coreF c i)) else none
theorem runC_step {q : List In} {n : Nat} {c c' : Cor} (h : runC q (n + 1) c = some c') : ∃ i, atP q c.pc = some i ∧ pureI i = true ∧ (((coreF c i).run = 0 ∧ runC q n (coreF c i) = some c') ∨ ((coreF c i).run ≠ 0 ∧ coreF c i = c')) := by
  unfold runC at h
  cases ha : atP q c.pc with
  | none => rw [ha] at h; cases h
  | some i =>
    rw [ha] at h
    dsimp only at h
    split at h
    · rename_i hp
      split at h
      · rename_i hr; exact ⟨i, rfl, hp, .inl ⟨hr, h⟩⟩
      · rename_i hr; cases h; exact ⟨i, rfl, hp, .inr ⟨hr, rfl⟩⟩
    · cases h
end Go.Proofs.YthceikgkaellkaaGreat
set_option linter.unusedVariables false
set_option linter.unusedSimpArgs false
namespace Go.Proofs.YthceikgkaellkaaGreat
open Go.RowKit Go.RR
def rcs (f : Nat → Nat) : Array Value := #[.int .u64 (f 0), .int .u64 (f 1), .int .u64 (f 2), .int .u64 (f 3), .int .u64 (f 4), .int .u64 (f 5), .int .u64 (f 6), .int .u64 (f 7), .int .u64 (f 8), .int .u64 (f 9), .int .u64 (f 10), .int .u64 (f 11), .int .u64 (f 12), .int .u64 (f 13), .int .u64 (f 14), .int .u64 (f 15)]
theorem rcs_at (f : Nat → Nat) {n : Nat} (h : n < 16) : (rcs f)[n]? = some (.int .u64 (f n)) := by
  iterate 16 (rcases n with _ | n; · rfl)
  omega
theorem rcs_set (f : Nat → Nat) {n : Nat} (h : n < 16) (v : Nat) : (rcs f).setIfInBounds n (.int .u64 v) = rcs (fun k => if k = n then v else f k) := by
  iterate 16 (rcases n with _ | n; · rfl)
  omega
theorem run_arr (f : Nat → Nat) {k : Nat} (hk : k < 16) (w : World) : (Instr.index 65 (.agg (rcs f)) (.int .i64 k)).run Tryz.prog w = .ok (.int .u64 (f k)) w := by
  unfold Instr.index
  iterate 16 (rcases k with _ | k; · (simp [go_sem, asIntOf, run_underlying Tryz.underlying65, part, rcs]; try rfl))
  omega
/-- A core with registers. -/
def regC (f : Nat → Nat) (n : Nat) : Cor := ⟨fun k => if k = 0 then 0 else if k < n then f k else 0, 65536, 0, ⟨0, 0, 0⟩⟩
theorem regC_zero (f : Nat → Nat) : regC f 0 = Cor.new 65536 := by
  unfold regC Cor.new
  congr 1
  funext k
  split
  · rfl
  · rw [if_neg (by omega)]
theorem regC_set (f : Nat → Nat) {n : Nat} (h : n < 16) : (regC f n).set n (f n) = regC f (n + 1) := by
  unfold Cor.set
  by_cases h0 : n = 0
  · subst h0
    rw [if_neg (fun e => e.2.2 rfl)]
    unfold regC
    congr 1
    funext k
    split
    · rfl
    · rw [if_neg (by omega), if_neg (by omega)]
  · rw [if_pos ⟨by omega, by omega, by omega⟩]
    unfold regC
    dsimp only
    congr 1
    funext k
    by_cases hk : (k : Int) = n
    · rw [if_pos hk, if_neg (by omega), if_pos (by omega)]
      congr 1
      omega
    · rw [if_neg hk]
      split
      · rfl
      · by_cases hl : k < n
        · rw [if_pos hl, if_pos (by omega)]
        · rw [if_neg hl, if_neg (by omega)]
def haltI : In := ⟨0, 0, 0, 0, 0⟩
theorem progL_halt {p : List In} (hr : ∀ i ∈ p, rightB i = true) (hl : p.length ≤ 999) : progL (p ++ [haltI]) = p ++ [haltI] := by
  unfold progL
  rw [List.take_of_length_le (by rw [List.length_append]; simp; omega)]
  exact List.filter_eq_self.2 fun i hi => by
    rcases List.mem_append.1 hi with hi | hi
    · exact hr i hi
    · rw [List.mem_singleton.1 hi]; decide
/-- A core that runs a program in a space. -/
structure Rn (w : World) (L : Pl) (s : Spc) (cb : Nat) (c : Cor) (q : List In) : Prop where
  mc : Mc w L s cb c
  inv : ∃ t1 t0, SpInv s t1 t0
  prog : HasProg s q
theorem Rn.chg0 {w w' : World} {L : Pl} {s : Spc} {cb : Nat} {c : Cor} {q : List In} (h : Rn w L s cb c q) (k : Chg NoB w w') : Rn w' L s cb c q := ⟨h.mc.chg0 k, h.inv, h.prog⟩
/-- One instruction. -/
theorem rnTry_any {w : World} {L : Pl} {s : Spc} {cb : Nat} {c : Cor} {q : List In} (h : Rn w L s cb c q) (hr : ∀ i ∈ q, rightB i = true) (hc : c.run = 0) {i : In} (hi : atP q c.pc = some i) (hp : pureI i = true) :
    Calls Tryz.prog 15 #[.pointer (some ⟨cb, 0, none⟩), .pointer (some ⟨L.ub, 0, none⟩), .int .i64 0] w (RetW (DidP.agg ⟨true, i, c.pc, -1, 0, 0, 0, 0, 0⟩) fun w' => ∃ (L' : Pl) (s' : Spc), Ext L L' w ∧ Rn w' L' s' cb (coreF c i) q ∧ Chg (Blks L cb) w w') := by
  obtain ⟨t1, t0, I⟩ := h.inv
  obtain ⟨b, hb, e, hx⟩ := try_pure I h.prog hr hc hi hp
  have := mcTry_any (X := nilCx) h.mc hc 0 hx (by decide) (by decide)
  rw [e] at this
  refine this.mono ?_
  rintro e' w' ⟨rfl, L', hE, hM, k⟩
  exact ⟨rfl, L', _, hE, ⟨hM, ⟨t1, t0, I.tlb hb⟩, ⟨h.prog.len, h.prog.at'⟩⟩, k⟩
end Go.Proofs.YthceikgkaellkaaGreat
