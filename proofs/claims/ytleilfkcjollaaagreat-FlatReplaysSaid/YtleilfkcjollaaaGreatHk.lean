/- Programs without memory: what a core makes of them, instruction by instruction. Plain, no program. No condition. Programs over one shared page that may be written: what a core makes of them, instruction by instruction. Plain, no program. No condition. The space of Made: its first shared page is laid with noughts, and may be written. Plain, no program. No condition. -/
import Derived.Test.YtleilfkcjollaaaGreatHd
import Derived.Test.YtleilfkcjollaaaGreatHj
set_option linter.unusedVariables false
set_option linter.unusedSimpArgs false
namespace Go.Proofs.YtleilfkcjollaaaGreat
open Go.RowKit Go.RR
/-- Neither memory nor complex numbers. -/
def pureI (i : In) : Bool := decide (kd i.op ≠ .L) && (decide (kd i.op ≠ .S) && (decide (kd i.op ≠ .A) && !(decide (10 ≤ i.op) && decide (i.op ≤ 14))))
def coreF (c : Cor) (i : In) : Cor :=
  if kd i.op = .B ∨ kd i.op = .J then jumpF c i
  else if kd i.op = .N ∧ i.op = 0 then { c with run := 1 }
  else if kd i.op = .N then { c with pc := (c.pc + 4) % 18446744073709551616 }
  else { (c.set i.rd (reckonF nilCx i (c.r i.rs.toNat) (c.r i.rt.toNat))) with pc := (c.pc + 4) % 18446744073709551616 }
theorem pureI_iff {i : In} (h : pureI i = true) : ¬ (kd i.op = .L ∨ kd i.op = .S ∨ kd i.op = .A) ∧ CxFor nilCx i.op := by
  unfold pureI at h
  simp only [Bool.and_eq_true, decide_eq_true_eq, Bool.not_eq_true', Bool.and_eq_false_iff, decide_eq_false_iff_not] at h
  obtain ⟨h1, h2, h3, h4⟩ := h
  exact ⟨fun e => e.elim h1 fun e => e.elim h2 h3, fun e => by rcases h4 with h4 | h4 <;> omega⟩
theorem do_pure {i : In} (h : pureI i = true) (c : Cor) (u : Mu) (pick : Int) : doF nilCx c u i pick = (⟨true, i, c.pc, -1, 0, 0, 0, 0, 0⟩, coreF c i, u) := by
  unfold doF coreF
  rw [if_neg (pureI_iff h).1]
  dsimp only
  split
  · rfl
  · split
    · rfl
    · split <;> rfl
/-- The instruction at a pc. -/
def atP (q : List In) (pc : Nat) : Option In := if 65536 ≤ pc ∧ (pc - 65536) % 4 = 0 then q[(pc - 65536) / 4]? else none
theorem atP_pc {q : List In} {pc : Nat} {i : In} (h : atP q pc = some i) : ∃ k, pc = 65536 + 4 * k ∧ q[k]? = some i := by
  unfold atP at h
  split at h
  · rename_i e
    exact ⟨(pc - 65536) / 4, by omega, h⟩
  · cases h
theorem try_pure {s : Spc} {t1 t0 : Nat → Option Nat} (h : SpInv s t1 t0) {q : List In} (hp : HasProg s q) (hr : ∀ i ∈ q, rightB i = true) {c : Cor} (hc : c.run = 0) {i : In} (hi : atP q c.pc = some i) (hpu : pureI i = true) :
    ∃ b, Coh b s.lf ∧ tryF nilCx c s.u 0 = (⟨true, i, c.pc, -1, 0, 0, 0, 0, 0⟩, coreF c i, { s.u with tlb := b }) ∧ (∀ j, instG (readF s.u c.pc 4 0 0).1.1 = some j → CxFor nilCx j.op) := by
  obtain ⟨k, hpc, hk⟩ := atP_pc hi
  obtain ⟨b, hb, e⟩ := try_prog nilCx h hp hr hk hc hpc 0
  refine ⟨b, hb, e.trans (do_pure hpu c _ 0), fun j hj => ?_⟩
  obtain ⟨b', -, e'⟩ := fetch_prog h hp hk 0
  rw [hpc, e', instG_W (hr i (List.mem_of_getElem? hk))] at hj
  cases hj
  exact (pureI_iff hpu).2
end Go.Proofs.YtleilfkcjollaaaGreat
set_option linter.unusedVariables false
set_option linter.unusedSimpArgs false
namespace Go.Proofs.YtleilfkcjollaaaGreat
open Go.RowKit Go.RR
/-- The words of the first shared page, which may be written. -/
structure Mem (s : Spc) (m : Nat → Nat) : Prop where
  right : rightOf s (0 : Nat) = 2
  at' : ∃ f, frameOf s (0 : Nat) = some f ∧ ∀ k, k < 512 → getW s.u.b (f * 4096 + 8 * k) 8 = m k
def pc4 (c : Cor) : Cor := { c with pc := (c.pc + 4) % 18446744073709551616 }
def memA (c : Cor) (i : In) : Nat := (c.r i.rs.toNat + uof i.im) % 18446744073709551616
def layM (m : Nat → Nat) (k v : Nat) : Nat → Nat := fun j => if j = k then v % 18446744073709551616 else m j
theorem set_pc (c : Cor) (n : Int) (v : Nat) : (c.set n v).pc = c.pc := by unfold Cor.set; split <;> rfl
theorem Mem.tlb {s : Spc} {m : Nat → Nat} (h : Mem s m) (b : Tlb) : Mem { s with u := { s.u with tlb := b } } m := ⟨h.right, h.at'⟩
theorem data_frame {s : Spc} {t1 t0 : Nat → Option Nat} (h : SpInv s t1 t0) {f : Nat} (hf : frameOf s (0 : Nat) = some f) : ¬ IsTab s.root t1 t0 f ∧ f ∉ s.code := by
  have hm := frameOf_mem hf
  refine ⟨(h.ft f hm).2, fun hc => ?_⟩
  have nd := h.nd
  unfold Spc.frames at nd
  rw [List.nodup_append] at nd
  have hs : f ∈ s.shared.map (·.2) := by
    unfold frameOf at hf
    rw [Option.map_eq_some_iff] at hf
    obtain ⟨x, hx, rfl⟩ := hf
    exact List.mem_map.2 ⟨x, List.mem_of_find?_eq_some hx, rfl⟩
  exact nd.2.2 f (List.mem_append_left _ hc) f hs rfl
/-- A word is laid into the page: the space holds on, the program lies there still. -/
theorem lay_mem {s : Spc} {t1 t0 : Nat → Option Nat} (h : SpInv s t1 t0) {q : List In} (hp : HasProg s q) {m : Nat → Nat} (hm : Mem s m) {f : Nat} (hf : frameOf s (0 : Nat) = some f) {k : Nat} (hk : k < 512) (v : Nat) {b : Tlb} (hb : Coh b s.lf) :
    SpInv { s with u := { s.u with tlb := b, b := putW s.u.b (f * 4096 + 8 * k) 8 v } } t1 t0 ∧ HasProg { s with u := { s.u with tlb := b, b := putW s.u.b (f * 4096 + 8 * k) 8 v } } q ∧ Mem { s with u := { s.u with tlb := b, b := putW s.u.b (f * 4096 + 8 * k) 8 v } } (layM m k v) := by
  obtain ⟨d1, d2⟩ := data_frame h hf
  refine ⟨?_, ⟨hp.len, fun j i e => ?_⟩, ⟨hm.right, f, hf, fun j hj => ?_⟩⟩
  · refine (h.bytes (b := putW s.u.b (f * 4096 + 8 * k) 8 v) fun a ha => putW_out ?_).tlb hb
    by_cases e : a / 4096 = f
    · rw [e] at ha; exact (d1 ha).elim
    · omega
  · rw [← hp.at' j i e]
    refine getW_congr 4 _ fun a h1 h2 => putW_out ?_
    have hj : j < q.length := by
      by_cases hj : j < q.length
      · exact hj
      · rw [List.getElem?_eq_none (by omega)] at e; cases e
    have hl := hp.len
    have hc : s.code.getD (4 * j / 4096) 0 ∈ s.code := by
      rw [List.getD_eq_getElem?_getD, List.getElem?_eq_getElem (by omega)]
      exact List.getElem_mem _
    have hne : s.code.getD (4 * j / 4096) 0 ≠ f := fun e => d2 (e ▸ hc)
    rw [codeAt_eq] at h1 h2
    have h1 : s.code.getD (4 * j / 4096) 0 * 4096 + 4 * j % 4096 ≤ a := h1
    have h2 : a < s.code.getD (4 * j / 4096) 0 * 4096 + 4 * j % 4096 + 4 := h2
    omega
  · obtain ⟨f', hf', hw⟩ := hm.at'
    rw [hf] at hf'
    cases hf'
    show getW (putW s.u.b (f * 4096 + 8 * k) 8 v) (f * 4096 + 8 * j) 8 = layM m k v j
    unfold layM
    by_cases e : j = k
    · subst e
      rw [if_pos rfl, getW_put]
    · rw [if_neg e]
      exact (getW_put_ne _ (by omega)).trans (hw j hj)
end Go.Proofs.YtleilfkcjollaaaGreat
set_option linter.unusedVariables false
set_option linter.unusedSimpArgs false
namespace Go.Proofs.YtleilfkcjollaaaGreat
open Go.RowKit Go.RR
theorem frame_in {s : Spc} {t1 t0 : Nat → Option Nat} (h : SpInv s t1 t0) {p : Int} {f : Nat} (hf : frameOf s p = some f) : f < s.u.fr := by
  have h1 := (h.ft f (frameOf_mem hf)).1
  have h2 : s.stk.next ≤ s.stk.fin := h.inv.nx
  have h3 : s.stk.fin ≤ s.u.fr := h.inv.fin
  omega
/-- The lowest byte of a word. -/
theorem low_byte {b : By} (hb : ByOk b) (a : Nat) : b a = getW b a 8 % 256 := by
  rw [getW_step]
  have := hb a
  omega
theorem mem_byte {s : Spc} {m : Nat → Nat} (h : Mem s m) (hb : ByOk s.u.b) {k : Nat} (hk : k < 512) : dataF s (0 : Nat) (8 * k) = m k % 256 := by
  obtain ⟨f, hf, hw⟩ := h.at'
  unfold dataF
  rw [hf]
  show pgF s.u.b f (8 * k) = _
  unfold pgF
  rw [← hw k hk]
  have e : 4096 * f + 8 * k = f * 4096 + 8 * k := by omega
  first
  | (rw [e]; exact low_byte hb _)
  | exact low_byte hb _
end Go.Proofs.YtleilfkcjollaaaGreat
