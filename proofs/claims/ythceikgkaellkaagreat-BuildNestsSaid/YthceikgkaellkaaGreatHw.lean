/- Programs over one shared page that may be written: what a core makes of them, instruction by instruction. Plain, no program. No condition. Loops in loops, and within locks: what a core makes of them. Plain, no program. No condition. The space of Made: its first shared page is laid with noughts, and may be written. Plain, no program. No condition. One instruction, over a shared page or none. No condition. BuildNests returns true, whatever it is given. -/
import Derived.Test.YthceikgkaellkaaGreatHv
import Derived.Test.YthceikgkaellkaaGreatHn
import Derived.Test.YthceikgkaellkaaGreatHs
import Derived.Test.YthceikgkaellkaaGreatHr
import Derived.Test.YthceikgkaellkaaGreatHt
set_option linter.unusedVariables false
set_option linter.unusedSimpArgs false
namespace Go.Proofs.YthceikgkaellkaaGreat
open Go.RowKit Go.RR
theorem check_read (f : Nat) : checkB (ent 2 f) 1 ⟨true, false, false⟩ = true := rfl
theorem load_shared {s : Spc} {t1 t0 : Nat → Option Nat} (h : SpInv s t1 t0) {f o : Nat} (hf : frameOf s (0 : Nat) = some f) (hr : rightOf s (0 : Nat) = 2) (ho : o < 4096) (h8 : o % 8 = 0) (pick : Int) :
    ∃ b, Coh b s.lf ∧ readF s.u (1073741824 + o) 8 1 pick = ((getW s.u.b (f * 4096 + o) 8, -1), { s.u with tlb := b }) := by
  obtain ⟨e1, e2, e3⟩ := shared_va (p := 0) (by omega) ho
  rw [show 1073741824 + 0 * 4096 + o = 1073741824 + o by omega] at e1 e2 e3
  have ha : alignedB (1073741824 + o) 8 = true := by
    unfold alignedB
    rw [show sizeB 8 = true from rfl, decide_eq_true (by show (1073741824 + o) % 8 = 0; omega)]
    rfl
  have hl := lf_at h.cl h.ol hf
  rw [hr, if_neg (by decide), ← e1] at hl
  obtain ⟨b, hb, e⟩ := (read_uo h.un e2 ha 1 pick (by decide)).2 _ hl
  refine ⟨b, hb, ?_⟩
  have hck : checkB (ent 2 f) 1 s.u.mode = true := by rw [h.mode]; exact check_read f
  rw [e, e3, ent_ppn, hck, if_pos rfl]
  rfl
theorem ld_do (X : Cx) {s : Spc} {t1 t0 : Nat → Option Nat} (h : SpInv s t1 t0) {f o : Nat} (hf : frameOf s (0 : Nat) = some f) (hr : rightOf s (0 : Nat) = 2) (ho : o < 4096) (h8 : o % 8 = 0) {c : Cor} {i : In} (hop : i.op = 22) (ha : (c.r i.rs.toNat + uof i.im) % 18446744073709551616 = 1073741824 + o) (pick : Int) :
    ∃ b d, Coh b s.lf ∧ doF X c s.u i pick = (d, { (c.set i.rd (getW s.u.b (f * 4096 + o) 8)) with pc := (c.pc + 4) % 18446744073709551616 }, { s.u with tlb := b }) ∧ d.done = true := by
  obtain ⟨op, rd, rs, rt, im⟩ := i
  subst hop
  obtain ⟨b, hb, e⟩ := load_shared h hf hr ho h8 pick
  refine ⟨b, ⟨true, ⟨22, rd, rs, rt, im⟩, c.pc, -1, 1, 1073741824 + o, 8, getW s.u.b (f * 4096 + o) 8, 0⟩, hb, ?_, rfl⟩
  have ed : doF X c s.u ⟨22, rd, rs, rt, im⟩ pick = overF c s.u ⟨22, rd, rs, rt, im⟩ pick := rfl
  rw [ed]
  unfold overF
  dsimp only at ha ⊢
  rw [show kd 22 = .L from rfl, show sizeI 22 = 8 from rfl, ha, e, if_pos rfl, if_neg (by simp)]
  rfl
theorem sd_do (X : Cx) {s : Spc} {t1 t0 : Nat → Option Nat} (h : SpInv s t1 t0) {f o : Nat} (hf : frameOf s (0 : Nat) = some f) (hr : rightOf s (0 : Nat) = 2) (ho : o < 4096) (h8 : o % 8 = 0) {c : Cor} {i : In} (hop : i.op = 29) (ha : (c.r i.rs.toNat + uof i.im) % 18446744073709551616 = 1073741824 + o) (pick : Int) :
    ∃ b d, Coh b s.lf ∧ doF X c s.u i pick = (d, { c with pc := (c.pc + 4) % 18446744073709551616 }, { s.u with tlb := b, b := putW s.u.b (f * 4096 + o) 8 (c.r i.rt.toNat) }) ∧ d.done = true := by
  obtain ⟨op, rd, rs, rt, im⟩ := i
  subst hop
  obtain ⟨b, hb, e⟩ := store_shared h (p := 0) (by omega) hf (by rw [hr]; decide) ho h8 (c.r rt.toNat) pick
  rw [show 1073741824 + 0 * 4096 + o = 1073741824 + o by omega, if_pos hr] at e
  refine ⟨b, ⟨true, ⟨29, rd, rs, rt, im⟩, c.pc, -1, 2, 1073741824 + o, 8, 0, cutF (c.r rt.toNat) 8⟩, hb, ?_, rfl⟩
  have ed : doF X c s.u ⟨29, rd, rs, rt, im⟩ pick = overF c s.u ⟨29, rd, rs, rt, im⟩ pick := rfl
  rw [ed]
  unfold overF
  dsimp only at ha ⊢
  rw [show kd 29 = .S from rfl, show sizeI 29 = 8 from rfl, ha, e, if_neg (by decide), if_pos rfl, if_neg (by simp)]
theorem sw_do (X : Cx) {s : Spc} {t1 t0 : Nat → Option Nat} (h : SpInv s t1 t0) {f o : Nat} (hf : frameOf s (0 : Nat) = some f) (hr : rightOf s (0 : Nat) = 2) (ho : o < 4096) (h8 : o % 8 = 0) {c : Cor} {i : In} (hop : i.op = 31) (ha : (c.r i.rs.toNat + uof i.im) % 18446744073709551616 = 1073741824 + o) (pick : Int) :
    ∃ b d, Coh b s.lf ∧ doF X c s.u i pick = (d, { (c.set i.rd (getW s.u.b (f * 4096 + o) 8)) with pc := (c.pc + 4) % 18446744073709551616 }, { s.u with tlb := b, b := putW s.u.b (f * 4096 + o) 8 (c.r i.rt.toNat) }) ∧ d.done = true := by
  obtain ⟨op, rd, rs, rt, im⟩ := i
  subst hop
  obtain ⟨b, hb, e⟩ := swap_shared h (p := 0) (by omega) hf (by rw [hr]; decide) ho h8 (turnF 31 (c.r rt.toNat)) pick
  rw [show 1073741824 + 0 * 4096 + o = 1073741824 + o by omega, if_pos hr] at e
  refine ⟨b, ⟨true, ⟨31, rd, rs, rt, im⟩, c.pc, -1, 2, 1073741824 + o, 8, getW s.u.b (f * 4096 + o) 8, cutF (c.r rt.toNat) 8⟩, hb, ?_, rfl⟩
  have ed : doF X c s.u ⟨31, rd, rs, rt, im⟩ pick = overF c s.u ⟨31, rd, rs, rt, im⟩ pick := rfl
  rw [ed]
  unfold overF
  dsimp only at ha ⊢
  rw [show kd 31 = .A from rfl, show sizeI 31 = 8 from rfl, ha, e, if_neg (by decide), if_neg (by decide), if_neg (by simp)]
  rfl
/-- The words of the first shared page, which may be written. -/
structure Mem (s : Spc) (m : Nat → Nat) : Prop where
  right : rightOf s (0 : Nat) = 2
  at' : ∃ f, frameOf s (0 : Nat) = some f ∧ ∀ k, k < 512 → getW s.u.b (f * 4096 + 8 * k) 8 = m k
def pc4 (c : Cor) : Cor := { c with pc := (c.pc + 4) % 18446744073709551616 }
def memA (c : Cor) (i : In) : Nat := (c.r i.rs.toNat + uof i.im) % 18446744073709551616
def memB (c : Cor) (i : In) : Bool := decide (1073741824 ≤ memA c i) && (decide (memA c i < 1073745920) && decide (memA c i % 8 = 0))
def memK (c : Cor) (i : In) : Nat := (memA c i - 1073741824) / 8
def layM (m : Nat → Nat) (k v : Nat) : Nat → Nat := fun j => if j = k then v % 18446744073709551616 else m j
/-- An instruction, over that page or none. -/
def coreM (c : Cor) (m : Nat → Nat) (i : In) : Option (Cor × (Nat → Nat)) :=
  if pureI i then some (coreF c i, m)
  else if memB c i then
    if i.op = 22 then some (pc4 (c.set i.rd (m (memK c i))), m)
    else if i.op = 29 then some (pc4 c, layM m (memK c i) (c.r i.rt.toNat))
    else if i.op = 31 then some (pc4 (c.set i.rd (m (memK c i))), layM m (memK c i) (c.r i.rt.toNat))
    else none
  else none
theorem set_pc (c : Cor) (n : Int) (v : Nat) : (c.set n v).pc = c.pc := by unfold Cor.set; split <;> rfl
theorem Mem.tlb {s : Spc} {m : Nat → Nat} (h : Mem s m) (b : Tlb) : Mem { s with u := { s.u with tlb := b } } m := ⟨h.right, h.at'⟩
theorem data_frame {s : Spc} {t1 t0 : Nat → Option Nat} (h : SpInv s t1 t0) {f : Nat} (hf : frameOf s (0 : Nat) = some f) : ¬ IsTab s.root t1 t0 f ∧ f ∉ s.code := by
  have hm := frameOf_mem hf
  refine ⟨(h.ft f hm).2, fun hc => ?_⟩
  have nd := h.nd
  unfold Spc.frames at nd
  rw [List.nodup_append] at nd
  have hs : f ∈ s.shared.map (·.2) := by
    unfold frameOf at hf
    rw [Option.map_eq_some_iff] at hf
    obtain ⟨x, hx, rfl⟩ := hf
    exact List.mem_map.2 ⟨x, List.mem_of_find?_eq_some hx, rfl⟩
  exact nd.2.2 f (List.mem_append_left _ hc) f hs rfl
/-- A word is laid into the page: the space holds on, the program lies there still. -/
theorem lay_mem {s : Spc} {t1 t0 : Nat → Option Nat} (h : SpInv s t1 t0) {q : List In} (hp : HasProg s q) {m : Nat → Nat} (hm : Mem s m) {f : Nat} (hf : frameOf s (0 : Nat) = some f) {k : Nat} (hk : k < 512) (v : Nat) {b : Tlb} (hb : Coh b s.lf) :
    SpInv { s with u := { s.u with tlb := b, b := putW s.u.b (f * 4096 + 8 * k) 8 v } } t1 t0 ∧ HasProg { s with u := { s.u with tlb := b, b := putW s.u.b (f * 4096 + 8 * k) 8 v } } q ∧ Mem { s with u := { s.u with tlb := b, b := putW s.u.b (f * 4096 + 8 * k) 8 v } } (layM m k v) := by
  obtain ⟨d1, d2⟩ := data_frame h hf
  refine ⟨?_, ⟨hp.len, fun j i e => ?_⟩, ⟨hm.right, f, hf, fun j hj => ?_⟩⟩
  · refine (h.bytes (b := putW s.u.b (f * 4096 + 8 * k) 8 v) fun a ha => putW_out ?_).tlb hb
    by_cases e : a / 4096 = f
    · rw [e] at ha; exact (d1 ha).elim
    · omega
  · rw [← hp.at' j i e]
    refine getW_congr 4 _ fun a h1 h2 => putW_out ?_
    have hj : j < q.length := by
      by_cases hj : j < q.length
      · exact hj
      · rw [List.getElem?_eq_none (by omega)] at e; cases e
    have hl := hp.len
    have hc : s.code.getD (4 * j / 4096) 0 ∈ s.code := by
      rw [List.getD_eq_getElem?_getD, List.getElem?_eq_getElem (by omega)]
      exact List.getElem_mem _
    have hne : s.code.getD (4 * j / 4096) 0 ≠ f := fun e => d2 (e ▸ hc)
    rw [codeAt_eq] at h1 h2
    have h1 : s.code.getD (4 * j / 4096) 0 * 4096 + 4 * j % 4096 ≤ a := h1
    have h2 : a < s.code.getD (4 * j / 4096) 0 * 4096 + 4 * j % 4096 + 4 := h2
    omega
  · obtain ⟨f', hf', hw⟩ := hm.at'
    rw [hf] at hf'
    cases hf'
    show getW (putW s.u.b (f * 4096 + 8 * k) 8 v) (f * 4096 + 8 * j) 8 = layM m k v j
    unfold layM
    by_cases e : j = k
    · subst e
      rw [if_pos rfl, getW_put]
    · rw [if_neg e]
      exact (getW_put_ne _ (by omega)).trans (hw j hj)
theorem try_mem {s : Spc} {t1 t0 : Nat → Option Nat} (h : SpInv s t1 t0) {q : List In} (hp : HasProg s q) (hr : ∀ i ∈ q, rightB i = true) {c : Cor} (hc : c.run = 0) {i : In} (hi : atP q c.pc = some i) {m : Nat → Nat} (hm : Mem s m) {x : Cor × (Nat → Nat)} (hx : coreM c m i = some x) :
    ∃ d u', tryF nilCx c s.u 0 = (d, x.1, u') ∧ d.done = true ∧ SpInv { s with u := u' } t1 t0 ∧ HasProg { s with u := u' } q ∧ Mem { s with u := u' } x.2 ∧ (∀ j, instG (readF s.u c.pc 4 0 0).1.1 = some j → CxFor nilCx j.op) := by
  by_cases hpu : pureI i = true
  · obtain ⟨b, hb, e, hcx⟩ := try_pure h hp hr hc hi hpu
    unfold coreM at hx
    rw [if_pos hpu] at hx
    cases hx
    exact ⟨_, _, e, rfl, h.tlb hb, ⟨hp.len, hp.at'⟩, hm.tlb b, hcx⟩
  · obtain ⟨k, hpc, hk⟩ := atP_pc hi
    obtain ⟨b, hb, e⟩ := try_prog nilCx h hp hr hk hc hpc 0
    have hcx : ∀ j, instG (readF s.u c.pc 4 0 0).1.1 = some j → j = i := fun j hj => by
      obtain ⟨b', -, e'⟩ := fetch_prog h hp hk 0
      rw [hpc, e', instG_W (hr i (List.mem_of_getElem? hk))] at hj
      exact (Option.some.inj hj).symm
    unfold coreM at hx
    rw [if_neg hpu] at hx
    split at hx
    · rename_i hmb
      unfold memB at hmb
      simp only [Bool.and_eq_true, decide_eq_true_eq] at hmb
      obtain ⟨a1, a2, a3⟩ := hmb
      have ha : (c.r i.rs.toNat + uof i.im) % 18446744073709551616 = 1073741824 + 8 * memK c i := by
        show memA c i = _
        unfold memK
        omega
      have hk5 : memK c i < 512 := by unfold memK; omega
      have h2 := h.tlb hb
      have hp2 : HasProg { s with u := { s.u with tlb := b } } q := ⟨hp.len, hp.at'⟩
      have hm2 := hm.tlb b
      obtain ⟨f, hf, hw⟩ := hm.at'
      have hw := hw _ hk5
      rw [e]
      split at hx
      · rename_i hop
        obtain ⟨b', d, hb', e', hd⟩ := ld_do nilCx h2 hf hm.right (o := 8 * memK c i) (by omega) (by omega) hop ha 0
        cases hx
        refine ⟨d, _, e'.trans ?_, hd, h2.tlb hb', ⟨hp.len, hp.at'⟩, hm2.tlb b', fun j hj => ?_⟩
        · rw [show getW s.u.b (f * 4096 + 8 * memK c i) 8 = m (memK c i) from hw]
          unfold pc4
          rw [set_pc]
        · rw [hcx j hj]; exact fun e => by omega
      · split at hx
        · rename_i hop
          obtain ⟨b', d, hb', e', hd⟩ := sd_do nilCx h2 hf hm.right (o := 8 * memK c i) (by omega) (by omega) hop ha 0
          cases hx
          obtain ⟨l1, l2, l3⟩ := lay_mem h2 hp2 hm2 hf hk5 (c.r i.rt.toNat) hb'
          exact ⟨d, _, e', hd, l1, l2, l3, fun j hj => by rw [hcx j hj]; exact fun e => by omega⟩
        · split at hx
          · rename_i hop
            obtain ⟨b', d, hb', e', hd⟩ := sw_do nilCx h2 hf hm.right (o := 8 * memK c i) (by omega) (by omega) hop ha 0
            cases hx
            obtain ⟨l1, l2, l3⟩ := lay_mem h2 hp2 hm2 hf hk5 (c.r i.rt.toNat) hb'
            refine ⟨d, _, e'.trans ?_, hd, l1, l2, l3, fun j hj => by rw [hcx j hj]; exact fun e => by omega⟩
            rw [show getW s.u.b (f * 4096 + 8 * memK c i) 8 = m (memK c i) from hw]
            unfold pc4
            rw [set_pc]
          · cases hx
    · cases hx
end Go.Proofs.YthceikgkaellkaaGreat
set_option linter.unusedVariables false
set_option linter.unusedSimpArgs false
namespace Go.Proofs.YthceikgkaellkaaGreat
open Go.RowKit Go.RR
/-- What is added to a word: load, add one, store. -/
def addM (n : Int) : List In := [⟨22, 8, 1, 0, n + 8⟩, ⟨2, 8, 8, 0, 1⟩, ⟨29, 0, 1, 8, n + 8⟩]
def inM (n : Int) : List In := [⟨2, 6, 1, 0, n⟩, ⟨1, 7, 0, 0, 1⟩, ⟨31, 7, 6, 7, 0⟩, ⟨16, 0, 7, 0, -2⟩, ⟨22, 8, 1, 0, n + 8⟩, ⟨2, 8, 8, 0, 1⟩, ⟨29, 0, 1, 8, n + 8⟩, ⟨29, 0, 1, 0, n⟩]
def onceM (j n : Int) : List In := ⟨1, 3, 0, 0, j⟩ :: (inM n ++ [⟨2, 3, 3, 0, -1⟩, ⟨16, 0, 3, 0, -9⟩])
def nestM (i j n : Int) : List In := ⟨1, 2, 0, 0, i⟩ :: (onceM j n ++ [⟨2, 2, 2, 0, -1⟩, ⟨16, 0, 2, 0, -12⟩])
def baseM : List In := [⟨1, 1, 0, 0, 256⟩, ⟨3, 1, 1, 0, 11⟩, ⟨3, 1, 1, 0, 11⟩]
theorem base_eq : constF 1 (sgn 1073741824) = baseM := by decide +kernel
theorem in_eq {a : Nat} (h : a < 100) : withinF 1 (8 * (a : Int)) 6 7 (addM (8 * (a : Int))) = inM (8 * (a : Int)) := by
  have q : ∀ a : Fin 100, withinF 1 (8 * (a.val : Int)) 6 7 (addM (8 * (a.val : Int))) = inM (8 * (a.val : Int)) := by decide +kernel
  exact q ⟨a, h⟩
set_option maxRecDepth 100000 in
theorem once_eq {a j : Nat} (h : a < 100) (h1 : 1 ≤ j) (h5 : j ≤ 5) : timesF 3 j (inM (8 * (a : Int))) = onceM j (8 * (a : Int)) := by
  have q : ∀ j : Fin 6, 1 ≤ j.val → ∀ a : Fin 100, timesF 3 (j.val : Int) (inM (8 * (a.val : Int))) = onceM (j.val : Int) (8 * (a.val : Int)) := by decide +kernel
  exact q ⟨j, by omega⟩ h1 ⟨a, h⟩
theorem nest_eq {a i j : Nat} (h : a < 100) (h1 : 1 ≤ j) (h5 : j ≤ 5) (g1 : 1 ≤ i) (g5 : i ≤ 5) : timesF 2 i (onceM j (8 * (a : Int))) = nestM i j (8 * (a : Int)) := by
  have q : ∀ i : Fin 6, 1 ≤ i.val → ∀ j : Fin 6, 1 ≤ j.val → ∀ a : Fin 100, timesF 2 (i.val : Int) (onceM (j.val : Int) (8 * (a.val : Int))) = nestM (i.val : Int) (j.val : Int) (8 * (a.val : Int)) := by decide +kernel
  exact q ⟨i, by omega⟩ g1 ⟨j, by omega⟩ h1 ⟨a, h⟩
def nestQ (i j n : Int) : List In := (baseM ++ nestM i j n) ++ [haltI]
set_option maxRecDepth 100000 in
theorem nest_right {a i j : Nat} (h : a < 100) (h5 : j ≤ 5) (g5 : i ≤ 5) : ∀ x ∈ nestQ i j (8 * (a : Int)), rightB x = true := by
  have q : ∀ i : Fin 6, ∀ j : Fin 6, ∀ a : Fin 100, ∀ x ∈ nestQ (i.val : Int) (j.val : Int) (8 * (a.val : Int)), rightB x = true := by decide +kernel
  exact q ⟨i, by omega⟩ ⟨j, by omega⟩ ⟨a, h⟩
/-- At most n instructions, till the core stops. -/
def runM (q : List In) : Nat → Cor → (Nat → Nat) → Option (Cor × (Nat → Nat))
  | 0, c, m => some (c, m)
  | n + 1, c, m => match atP q c.pc with
    | none => none
    | some i => match coreM c m i with
      | none => none
      | some x => if x.1.run = 0 then runM q n x.1 x.2 else some x
theorem runM_step {q : List In} {n : Nat} {c : Cor} {m : Nat → Nat} {y : Cor × (Nat → Nat)} (h : runM q (n + 1) c m = some y) : ∃ i x, atP q c.pc = some i ∧ coreM c m i = some x ∧ ((x.1.run = 0 ∧ runM q n x.1 x.2 = some y) ∨ (x.1.run ≠ 0 ∧ x = y)) := by
  unfold runM at h
  cases ha : atP q c.pc with
  | none => rw [ha] at h; cases h
  | some i =>
    rw [ha] at h
    dsimp only at h
    cases hx : coreM c m i with
    | none => rw [hx] at h; cases h
    | some z =>
      rw [hx] at h
      dsimp only at h
      split at h
      · rename_i hr; exact ⟨i, z, rfl, hx, .inl ⟨hr, h⟩⟩
      · rename_i hr; have h := Option.some.inj h; exact ⟨i, z, rfl, hx, .inr ⟨hr, h⟩⟩
theorem runM_go {q : List In} {n : Nat} {c c' : Cor} {m m' : Nat → Nat} {i : In} (ha : atP q c.pc = some i) (hx : coreM c m i = some (c', m')) (h0 : c'.run = 0) : runM q (n + 1) c m = runM q n c' m' := by
  show (match atP q c.pc with
    | none => none
    | some i => match coreM c m i with
      | none => none
      | some x => if x.1.run = 0 then runM q n x.1 x.2 else some x) = _
  rw [ha]
  dsimp only
  rw [hx]
  dsimp only
  rw [if_pos h0]
theorem coreM_pure {c : Cor} {m : Nat → Nat} {i : In} (h : pureI i = true) : coreM c m i = some (coreF c i, m) := by
  unfold coreM
  rw [if_pos h]
theorem haltM {q : List In} {n k : Nat} {r m : Nat → Nat} (ha : q[k]? = some haltI) : runM q (n + 1) (kC r k) m = some ({ (kC r k) with run := 1 }, m) := by
  show (match atP q (kC r k).pc with
    | none => none
    | some i => match coreM (kC r k) m i with
      | none => none
      | some x => if x.1.run = 0 then runM q n x.1 x.2 else some x) = _
  rw [show atP q (kC r k).pc = some haltI from (atP_k q k).trans ha]
  dsimp only
  rw [coreM_pure (by decide)]
  dsimp only
  rw [if_neg (show ¬ (coreF (kC r k) haltI).run = 0 from by show ¬ (1 : Int) = 0; decide)]
  rfl
theorem core_kstr {k : Nat} {r : Nat → Nat} {op : Int} {rd : Nat} {rs rt im : Int} (hs : strI ⟨op, rd, rs, rt, im⟩ = true) (h1 : 1 ≤ rd) (h2 : rd ≤ 15) (hk : k ≤ 100000) {v : Nat} (hv : reckonF nilCx ⟨op, rd, rs, rt, im⟩ (r rs.toNat) (r rt.toNat) = v) :
    coreF (kC r k) ⟨op, rd, rs, rt, im⟩ = kC (putR r rd v) (k + 1) := by
  rw [core_str hs, ← hv]
  unfold kC
  rw [set_kC h1 h2]
  show Cor.mk _ ((65536 + 4 * k + 4) % 18446744073709551616) 0 _ = _
  rw [show (65536 + 4 * k + 4) % 18446744073709551616 = 65536 + 4 * (k + 1) by omega]
theorem goM_str {q : List In} {n k : Nat} {r m : Nat → Nat} {op : Int} {rd : Nat} {rs rt im : Int} (ha : q[k]? = some ⟨op, rd, rs, rt, im⟩) (hs : strI ⟨op, rd, rs, rt, im⟩ = true) (h1 : 1 ≤ rd) (h2 : rd ≤ 15) (hk : k ≤ 100000) (v : Nat) (hv : reckonF nilCx ⟨op, rd, rs, rt, im⟩ (r rs.toNat) (r rt.toNat) = v) :
    runM q (n + 1) (kC r k) m = runM q n (kC (putR r rd v) (k + 1)) m :=
  runM_go ((atP_k q k).trans ha) ((coreM_pure (strI_pure hs)).trans (by rw [core_kstr hs h1 h2 hk hv])) rfl
theorem br_pure {op rs rt im : Int} (ho : op = 15 ∨ op = 16 ∨ op = 17) : pureI ⟨op, 0, rs, rt, im⟩ = true := by
  have hkd : kd op = .B := by rcases ho with rfl | rfl | rfl <;> decide
  unfold pureI
  dsimp only
  rw [hkd]
  have : decide (op ≤ 14) = false := decide_eq_false (by omega)
  rw [this]
  simp
theorem core_kbr {k j : Nat} {r : Nat → Nat} {op rs rt im : Int} (ho : op = 15 ∨ op = 16 ∨ op = 17) (hj : j = (if takenB op (r rs.toNat) (r rt.toNat) then ((k : Int) + im).toNat else k + 1)) (h0 : 0 ≤ (k : Int) + im) (h1 : (k : Int) + im ≤ 100000) (hk : k ≤ 100000) :
    coreF (kC r k) ⟨op, 0, rs, rt, im⟩ = kC r j := by
  have hkd : kd op = .B := by rcases ho with rfl | rfl | rfl <;> decide
  have h18 : op ≠ 18 := by rcases ho with rfl | rfl | rfl <;> decide
  unfold coreF
  rw [if_pos (.inl hkd)]
  unfold jumpF
  dsimp only
  rw [if_neg h18, hj]
  unfold kC
  dsimp only
  congr 1
  split
  · unfold uof
    omega
  · omega
theorem goM_br {q : List In} {n k : Nat} {r m : Nat → Nat} {op rs rt im : Int} (j : Nat) (ha : q[k]? = some ⟨op, 0, rs, rt, im⟩) (ho : op = 15 ∨ op = 16 ∨ op = 17) (hj : j = (if takenB op (r rs.toNat) (r rt.toNat) then ((k : Int) + im).toNat else k + 1)) (h0 : 0 ≤ (k : Int) + im) (h1 : (k : Int) + im ≤ 100000) (hk : k ≤ 100000) :
    runM q (n + 1) (kC r k) m = runM q n (kC r j) m :=
  runM_go ((atP_k q k).trans ha) ((coreM_pure (br_pure ho)).trans (by rw [core_kbr ho hj h0 h1 hk])) rfl
theorem pc4_kC (r : Nat → Nat) {k : Nat} (hk : k ≤ 100000) : pc4 (kC r k) = kC r (k + 1) := by
  unfold pc4 kC
  dsimp only
  rw [show (65536 + 4 * k + 4) % 18446744073709551616 = 65536 + 4 * (k + 1) by omega]
theorem mem_at {r : Nat → Nat} {k w : Nat} {i : In} (hw : w < 512) (ha : (r i.rs.toNat + uof i.im) % 18446744073709551616 = 1073741824 + 8 * w) : memB (kC r k) i = true ∧ memK (kC r k) i = w := by
  have e : memA (kC r k) i = 1073741824 + 8 * w := ha
  unfold memB memK
  rw [e]
  refine ⟨?_, by omega⟩
  simp only [Bool.and_eq_true, decide_eq_true_eq]
  omega
theorem set_kC' {r : Nat → Nat} {k rd : Nat} (h1 : 1 ≤ rd) (h2 : rd ≤ 15) (v : Nat) : (kC r k).set rd v = kC (putR r rd v) k := set_kC h1 h2 v _
theorem np_mem {op : Int} (h : op = 22 ∨ op = 29 ∨ op = 31) (rd rs rt im : Int) : ¬ pureI ⟨op, rd, rs, rt, im⟩ = true := by
  rcases h with rfl | rfl | rfl <;> exact fun e => by cases e
theorem goM_ld {q : List In} {n k : Nat} {r m : Nat → Nat} {rd : Nat} {rs im : Int} (w : Nat) (ha : q[k]? = some ⟨22, rd, rs, 0, im⟩) (h1 : 1 ≤ rd) (h2 : rd ≤ 15) (hk : k ≤ 100000) (hw : w < 512) (hm : (r rs.toNat + uof im) % 18446744073709551616 = 1073741824 + 8 * w) :
    runM q (n + 1) (kC r k) m = runM q n (kC (putR r rd (m w)) (k + 1)) m := by
  obtain ⟨e1, e2⟩ := mem_at (r := r) (k := k) (i := ⟨22, rd, rs, 0, im⟩) hw hm
  refine runM_go ((atP_k q k).trans ha) ?_ rfl
  unfold coreM
  rw [if_neg (np_mem (by omega) _ _ _ _), if_pos e1, if_pos rfl, e2]
  dsimp only
  rw [set_kC' h1 h2, pc4_kC _ hk]
theorem goM_sd {q : List In} {n k : Nat} {r m : Nat → Nat} {rs rt im : Int} (w : Nat) (ha : q[k]? = some ⟨29, 0, rs, rt, im⟩) (hk : k ≤ 100000) (hw : w < 512) (hm : (r rs.toNat + uof im) % 18446744073709551616 = 1073741824 + 8 * w) :
    runM q (n + 1) (kC r k) m = runM q n (kC r (k + 1)) (layM m w (r rt.toNat)) := by
  obtain ⟨e1, e2⟩ := mem_at (r := r) (k := k) (i := ⟨29, 0, rs, rt, im⟩) hw hm
  refine runM_go ((atP_k q k).trans ha) ?_ rfl
  unfold coreM
  rw [if_neg (np_mem (by omega) _ _ _ _), if_pos e1, if_neg (show ¬ (29 : Int) = 22 by decide), if_pos rfl, e2, pc4_kC _ hk]
  rfl
theorem goM_sw {q : List In} {n k : Nat} {r m : Nat → Nat} {rd : Nat} {rs rt im : Int} (w : Nat) (ha : q[k]? = some ⟨31, rd, rs, rt, im⟩) (h1 : 1 ≤ rd) (h2 : rd ≤ 15) (hk : k ≤ 100000) (hw : w < 512) (hm : (r rs.toNat + uof im) % 18446744073709551616 = 1073741824 + 8 * w) :
    runM q (n + 1) (kC r k) m = runM q n (kC (putR r rd (m w)) (k + 1)) (layM m w (r rt.toNat)) := by
  obtain ⟨e1, e2⟩ := mem_at (r := r) (k := k) (i := ⟨31, rd, rs, rt, im⟩) hw hm
  refine runM_go ((atP_k q k).trans ha) ?_ rfl
  unfold coreM
  rw [if_neg (np_mem (by omega) _ _ _ _), if_pos e1, if_neg (show ¬ (31 : Int) = 22 by decide), if_neg (show ¬ (31 : Int) = 29 by decide), if_pos rfl, e2]
  dsimp only
  rw [set_kC' h1 h2, pc4_kC _ hk]
  rfl
theorem layM_at (m : Nat → Nat) (k : Nat) {v : Nat} (h : v < 18446744073709551616) : layM m k v k = v := by
  unfold layM
  rw [if_pos rfl]
  exact Nat.mod_eq_of_lt h
theorem layM_ne (m : Nat → Nat) {k j : Nat} (v : Nat) (h : j ≠ k) : layM m k v j = m j := if_neg h
theorem uof_nat {n : Nat} (h : n < 18446744073709551616) : uof (n : Int) = n := by
  unfold uof
  omega
/-- What is done within the lock: once. -/
theorem in_round (i j : Int) {a : Nat} (ha : a < 100) (n : Nat) (r m : Nat → Nat) {x : Nat} (r0 : r 0 = 0) (r1 : r 1 = 1073741824) (ma : m a = 0) (mb : m (a + 1) = x) (hx : x < 1000) :
    ∃ r' m', runM (nestQ i j (8 * (a : Int))) (n + 8) (kC r 5) m = runM (nestQ i j (8 * (a : Int))) n (kC r' 13) m' ∧ r' 0 = 0 ∧ r' 1 = 1073741824 ∧ r' 2 = r 2 ∧ r' 3 = r 3 ∧ m' a = 0 ∧ m' (a + 1) = x + 1 := by
  have u8 : uof (8 * (a : Int)) = 8 * a := by have := uof_nat (n := 8 * a) (by omega); rwa [Int.natCast_mul] at this
  have u88 : uof (8 * (a : Int) + 8) = 8 * a + 8 := by unfold uof; omega
  have s1 := goM_str (q := nestQ i j (8 * (a : Int))) (n := n + 7) (k := 5) (r := r) (m := m) (op := 2) (rd := 6) (rs := 1) (rt := 0) (im := 8 * (a : Int)) rfl rfl (by omega) (by omega) (by omega) (1073741824 + 8 * a) (by
    rw [reck2, u8]
    show (r 1 + 8 * a) % _ = _
    rw [r1]; omega)
  generalize hp1 : putR r 6 (1073741824 + 8 * a) = p1 at s1
  have s2 := goM_str (q := nestQ i j (8 * (a : Int))) (n := n + 6) (k := 6) (r := p1) (m := m) (op := 1) (rd := 7) (rs := 0) (rt := 0) (im := 1) rfl rfl (by omega) (by omega) (by omega) 1 rfl
  generalize hp2 : putR p1 7 1 = p2 at s2
  have s3 := goM_sw (q := nestQ i j (8 * (a : Int))) (n := n + 5) (k := 7) (r := p2) (m := m) (rd := 7) (rs := 6) (rt := 7) (im := 0) a rfl (by omega) (by omega) (by omega) (by omega) (by
    have : p2 (6 : Int).toNat = 1073741824 + 8 * a := by rw [← hp2, ← hp1]; rfl
    rw [this]
    show (1073741824 + 8 * a + 0) % _ = _
    omega)
  rw [ma, show p2 (7 : Int).toNat = 1 by rw [← hp2]; rfl] at s3
  generalize hp3 : putR p2 7 0 = p3 at s3
  have s4 := goM_br (q := nestQ i j (8 * (a : Int))) (n := n + 4) (k := 8) (r := p3) (m := layM m a 1) (op := 16) (rs := 7) (rt := 0) (im := -2) 9 rfl (.inr (.inl rfl)) (by
    have e7 : p3 (7 : Int).toNat = 0 := by rw [← hp3]; rfl
    have e0 : p3 (0 : Int).toNat = 0 := by rw [← hp3, ← hp2, ← hp1]; exact r0
    rw [e7, e0]
    rfl) (by omega) (by omega) (by omega)
  have s5 := goM_ld (q := nestQ i j (8 * (a : Int))) (n := n + 3) (k := 9) (r := p3) (m := layM m a 1) (rd := 8) (rs := 1) (im := 8 * (a : Int) + 8) (a + 1) rfl (by omega) (by omega) (by omega) (by omega) (by
    have : p3 (1 : Int).toNat = 1073741824 := by rw [← hp3, ← hp2, ← hp1]; exact r1
    rw [this, u88]
    omega)
  rw [layM_ne m 1 (show a + 1 ≠ a by omega), mb] at s5
  generalize hp4 : putR p3 8 x = p4 at s5
  have s6 := goM_str (q := nestQ i j (8 * (a : Int))) (n := n + 2) (k := 10) (r := p4) (m := layM m a 1) (op := 2) (rd := 8) (rs := 8) (rt := 0) (im := 1) rfl rfl (by omega) (by omega) (by omega) (x + 1) (by
    have : p4 (8 : Int).toNat = x := by rw [← hp4]; rfl
    rw [this]
    exact reck_one hx)
  generalize hp5 : putR p4 8 (x + 1) = p5 at s6
  have e1 : p5 (1 : Int).toNat = 1073741824 := by rw [← hp5, ← hp4, ← hp3, ← hp2, ← hp1]; exact r1
  have s7 := goM_sd (q := nestQ i j (8 * (a : Int))) (n := n + 1) (k := 11) (r := p5) (m := layM m a 1) (rs := 1) (rt := 8) (im := 8 * (a : Int) + 8) (a + 1) rfl (by omega) (by omega) (by
    rw [e1, u88]
    omega)
  rw [show p5 (8 : Int).toNat = x + 1 by rw [← hp5]; rfl] at s7
  have s8 := goM_sd (q := nestQ i j (8 * (a : Int))) (n := n) (k := 12) (r := p5) (m := layM (layM m a 1) (a + 1) (x + 1)) (rs := 1) (rt := 0) (im := 8 * (a : Int)) a rfl (by omega) (by omega) (by
    rw [e1, u8]
    omega)
  have e0 : p5 (0 : Int).toNat = 0 := by rw [← hp5, ← hp4, ← hp3, ← hp2, ← hp1]; exact r0
  rw [e0] at s8
  refine ⟨p5, _, s1.trans (s2.trans (s3.trans (s4.trans (s5.trans (s6.trans (s7.trans s8)))))), e0, e1, ?_, ?_, layM_at _ _ (by omega), ?_⟩
  · rw [← hp5, ← hp4, ← hp3, ← hp2, ← hp1]; rfl
  · rw [← hp5, ← hp4, ← hp3, ← hp2, ← hp1]; rfl
  · rw [layM_ne _ _ (show a + 1 ≠ a by omega)]
    exact layM_at _ _ (by omega)
theorem j_loop (i j : Int) {a : Nat} (ha : a < 100) (e : Nat) : ∀ (t : Nat) (r m : Nat → Nat) (x : Nat), r 0 = 0 → r 1 = 1073741824 → r 3 = t + 1 → t < 10 → m a = 0 → m (a + 1) = x → x + t < 900 →
    ∃ r' m', runM (nestQ i j (8 * (a : Int))) (10 * (t + 1) + e) (kC r 5) m = runM (nestQ i j (8 * (a : Int))) e (kC r' 15) m' ∧ r' 0 = 0 ∧ r' 1 = 1073741824 ∧ r' 2 = r 2 ∧ m' a = 0 ∧ m' (a + 1) = x + (t + 1) := by
  intro t
  induction t with
  | zero =>
    intro r m x r0 r1 r3 ht ma mb hx
    obtain ⟨p, m1, s1, p0, p1, p2, p3, n0, n1⟩ := in_round i j ha (e + 2) r m r0 r1 ma mb (by omega)
    have s2 := goM_str (q := nestQ i j (8 * (a : Int))) (n := e + 1) (k := 13) (r := p) (m := m1) (op := 2) (rd := 3) (rs := 3) (rt := 0) (im := -1) rfl rfl (by omega) (by omega) (by omega) 0 (reck_dec (by omega) (p3.trans r3))
    have s3 := goM_br (q := nestQ i j (8 * (a : Int))) (n := e) (k := 14) (r := putR p 3 0) (m := m1) (op := 16) (rs := 3) (rt := 0) (im := -9) 15 rfl (.inr (.inl rfl)) (by
      have e1 : takenB 16 (putR p 3 0 (3 : Int).toNat) (putR p 3 0 (0 : Int).toNat) = decide (0 ≠ p 0) := rfl
      rw [e1, p0]
      rfl) (by omega) (by omega) (by omega)
    refine ⟨putR p 3 0, m1, ?_, p0, p1, p2, n0, n1⟩
    rw [show 10 * (0 + 1) + e = e + 2 + 8 by omega]
    exact s1.trans (s2.trans s3)
  | succ t ih =>
    intro r m x r0 r1 r3 ht ma mb hx
    obtain ⟨p, m1, s1, p0, p1, p2, p3, n0, n1⟩ := in_round i j ha (10 * (t + 1) + e + 2) r m r0 r1 ma mb (by omega)
    have s2 := goM_str (q := nestQ i j (8 * (a : Int))) (n := 10 * (t + 1) + e + 1) (k := 13) (r := p) (m := m1) (op := 2) (rd := 3) (rs := 3) (rt := 0) (im := -1) rfl rfl (by omega) (by omega) (by omega) (t + 1) (reck_dec (by omega) (p3.trans r3))
    have s3 := goM_br (q := nestQ i j (8 * (a : Int))) (n := 10 * (t + 1) + e) (k := 14) (r := putR p 3 (t + 1)) (m := m1) (op := 16) (rs := 3) (rt := 0) (im := -9) 5 rfl (.inr (.inl rfl)) (by
      have e1 : takenB 16 (putR p 3 (t + 1) (3 : Int).toNat) (putR p 3 (t + 1) (0 : Int).toNat) = decide (t + 1 ≠ p 0) := rfl
      rw [e1, p0]
      rfl) (by omega) (by omega) (by omega)
    obtain ⟨r', m', s4, q0, q1, q2, k0, k1⟩ := ih (putR p 3 (t + 1)) m1 (x + 1) p0 p1 rfl (by omega) n0 n1 (by omega)
    refine ⟨r', m', ?_, q0, q1, q2.trans p2, k0, by omega⟩
    rw [show 10 * (t + 1 + 1) + e = 10 * (t + 1) + e + 2 + 8 by omega]
    exact s1.trans (s2.trans (s3.trans s4))
theorem i_loop (i : Int) {j a : Nat} (hj : 1 ≤ j) (hj5 : j ≤ 5) (ha : a < 100) (e : Nat) : ∀ (t : Nat) (r m : Nat → Nat) (x : Nat), r 0 = 0 → r 1 = 1073741824 → r 2 = t + 1 → t < 10 → m a = 0 → m (a + 1) = x → x + j * (t + 1) < 900 →
    ∃ r' m', runM (nestQ i j (8 * (a : Int))) ((10 * j + 3) * (t + 1) + e) (kC r 4) m = runM (nestQ i j (8 * (a : Int))) e (kC r' 17) m' ∧ m' a = 0 ∧ m' (a + 1) = x + j * (t + 1) := by
  have hone : ∀ (e' : Nat) (r m : Nat → Nat) (x : Nat), r 0 = 0 → r 1 = 1073741824 → m a = 0 → m (a + 1) = x → x + j < 900 →
      ∃ r' m', runM (nestQ i j (8 * (a : Int))) (10 * j + 1 + e') (kC r 4) m = runM (nestQ i j (8 * (a : Int))) e' (kC r' 15) m' ∧ r' 0 = 0 ∧ r' 1 = 1073741824 ∧ r' 2 = r 2 ∧ m' a = 0 ∧ m' (a + 1) = x + j := by
    intro e' r m x r0 r1 ma mb hx
    have s1 := goM_str (q := nestQ i j (8 * (a : Int))) (n := 10 * j + e') (k := 4) (r := r) (m := m) (op := 1) (rd := 3) (rs := 0) (rt := 0) (im := (j : Int)) rfl rfl (by omega) (by omega) (by omega) j (by rw [reck1]; exact uof_nat (by omega))
    obtain ⟨t, rfl⟩ : ∃ t, j = t + 1 := ⟨j - 1, by omega⟩
    obtain ⟨r', m', s2, q0, q1, q2, k0, k1⟩ := j_loop i ((t + 1 : Nat) : Int) ha e' t (putR r 3 (t + 1)) m x r0 r1 rfl (by omega) ma mb (by omega)
    refine ⟨r', m', ?_, q0, q1, q2, k0, k1⟩
    rw [show 10 * (t + 1) + 1 + e' = 10 * (t + 1) + e' + 1 by omega]
    exact s1.trans s2
  intro t
  induction t with
  | zero =>
    intro r m x r0 r1 r2 ht ma mb hx
    obtain ⟨p, m1, s1, p0, p1, p2, n0, n1⟩ := hone (e + 2) r m x r0 r1 ma mb (by omega)
    have s2 := goM_str (q := nestQ i j (8 * (a : Int))) (n := e + 1) (k := 15) (r := p) (m := m1) (op := 2) (rd := 2) (rs := 2) (rt := 0) (im := -1) rfl rfl (by omega) (by omega) (by omega) 0 (reck_dec (by omega) (p2.trans r2))
    have s3 := goM_br (q := nestQ i j (8 * (a : Int))) (n := e) (k := 16) (r := putR p 2 0) (m := m1) (op := 16) (rs := 2) (rt := 0) (im := -12) 17 rfl (.inr (.inl rfl)) (by
      have e1 : takenB 16 (putR p 2 0 (2 : Int).toNat) (putR p 2 0 (0 : Int).toNat) = decide (0 ≠ p 0) := rfl
      rw [e1, p0]
      rfl) (by omega) (by omega) (by omega)
    refine ⟨putR p 2 0, m1, ?_, n0, by omega⟩
    rw [show (10 * j + 3) * (0 + 1) + e = 10 * j + 1 + (e + 2) by omega]
    exact s1.trans (s2.trans s3)
  | succ t ih =>
    intro r m x r0 r1 r2 ht ma mb hx
    have hmul : j * (t + 1 + 1) = j * (t + 1) + j := Nat.mul_succ j (t + 1)
    obtain ⟨p, m1, s1, p0, p1, p2, n0, n1⟩ := hone ((10 * j + 3) * (t + 1) + e + 2) r m x r0 r1 ma mb (by omega)
    have s2 := goM_str (q := nestQ i j (8 * (a : Int))) (n := (10 * j + 3) * (t + 1) + e + 1) (k := 15) (r := p) (m := m1) (op := 2) (rd := 2) (rs := 2) (rt := 0) (im := -1) rfl rfl (by omega) (by omega) (by omega) (t + 1) (reck_dec (by omega) (p2.trans r2))
    have s3 := goM_br (q := nestQ i j (8 * (a : Int))) (n := (10 * j + 3) * (t + 1) + e) (k := 16) (r := putR p 2 (t + 1)) (m := m1) (op := 16) (rs := 2) (rt := 0) (im := -12) 4 rfl (.inr (.inl rfl)) (by
      have e1 : takenB 16 (putR p 2 (t + 1) (2 : Int).toNat) (putR p 2 (t + 1) (0 : Int).toNat) = decide (t + 1 ≠ p 0) := rfl
      rw [e1, p0]
      rfl) (by omega) (by omega) (by omega)
    obtain ⟨r', m', s4, k0, k1⟩ := ih (putR p 2 (t + 1)) m1 (x + j) p0 p1 rfl (by omega) n0 n1 (by omega)
    refine ⟨r', m', ?_, k0, by omega⟩
    have hm2 : (10 * j + 3) * (t + 1 + 1) = (10 * j + 3) * (t + 1) + (10 * j + 3) := Nat.mul_succ (10 * j + 3) (t + 1)
    rw [hm2, show (10 * j + 3) * (t + 1) + (10 * j + 3) + e = 10 * j + 1 + ((10 * j + 3) * (t + 1) + e + 2) by omega]
    exact s1.trans (s2.trans (s3.trans s4))
theorem uof_11 : uof 11 = 11 := by decide
theorem reck3 (rd rs rt im : Int) (a b : Nat) : reckonF nilCx ⟨3, rd, rs, rt, im⟩ a b = a * 2 ^ (uof im % 64) % 18446744073709551616 := rfl
/-- The whole program. -/
theorem nest_run {i j a : Nat} (hi : 1 ≤ i) (hi5 : i ≤ 5) (hj : 1 ≤ j) (hj5 : j ≤ 5) (ha : a < 100) {r m : Nat → Nat} (r0 : r 0 = 0) (ma : m a = 0) (mb : m (a + 1) = 0) :
    ∃ c m', runM (nestQ i j (8 * (a : Int))) 2000 (kC r 0) m = some (c, m') ∧ c.run = 1 ∧ m' a = 0 ∧ m' (a + 1) = i * j := by
  have hij : (10 * j + 3) * i ≤ 265 := by
    have : (10 * j + 3) * i ≤ 53 * 5 := Nat.mul_le_mul (by omega) hi5
    omega
  have hji : j * i ≤ 25 := Nat.mul_le_mul hj5 hi5
  obtain ⟨t, rfl⟩ : ∃ t, i = t + 1 := ⟨i - 1, by omega⟩
  obtain ⟨e, he⟩ : ∃ e, 2000 = (10 * j + 3) * (t + 1) + (e + 1) + 4 := ⟨2000 - (10 * j + 3) * (t + 1) - 5, by omega⟩
  have s1 := goM_str (q := nestQ ((t + 1 : Nat) : Int) j (8 * (a : Int))) (n := (10 * j + 3) * (t + 1) + (e + 1) + 3) (k := 0) (r := r) (m := m) (op := 1) (rd := 1) (rs := 0) (rt := 0) (im := 256) rfl rfl (by omega) (by omega) (by omega) 256 (by rw [reck1]; decide)
  have s2 := goM_str (q := nestQ ((t + 1 : Nat) : Int) j (8 * (a : Int))) (n := (10 * j + 3) * (t + 1) + (e + 1) + 2) (k := 1) (r := putR r 1 256) (m := m) (op := 3) (rd := 1) (rs := 1) (rt := 0) (im := 11) rfl rfl (by omega) (by omega) (by omega) 524288 (by rw [reck3, uof_11]; show 256 * 2 ^ (11 % 64) % 18446744073709551616 = 524288; decide)
  have s3 := goM_str (q := nestQ ((t + 1 : Nat) : Int) j (8 * (a : Int))) (n := (10 * j + 3) * (t + 1) + (e + 1) + 1) (k := 2) (r := putR (putR r 1 256) 1 524288) (m := m) (op := 3) (rd := 1) (rs := 1) (rt := 0) (im := 11) rfl rfl (by omega) (by omega) (by omega) 1073741824 (by rw [reck3, uof_11]; show 524288 * 2 ^ (11 % 64) % 18446744073709551616 = 1073741824; decide)
  have s4 := goM_str (q := nestQ ((t + 1 : Nat) : Int) j (8 * (a : Int))) (n := (10 * j + 3) * (t + 1) + (e + 1)) (k := 3) (r := putR (putR (putR r 1 256) 1 524288) 1 1073741824) (m := m) (op := 1) (rd := 2) (rs := 0) (rt := 0) (im := ((t + 1 : Nat) : Int)) rfl rfl (by omega) (by omega) (by omega) (t + 1) (by rw [reck1]; exact uof_nat (by omega))
  obtain ⟨r', m', s5, k0, k1⟩ := i_loop ((t + 1 : Nat) : Int) hj hj5 ha (e + 1) t (putR (putR (putR (putR r 1 256) 1 524288) 1 1073741824) 2 (t + 1)) m 0 r0 rfl rfl (by omega) ma mb (by omega)
  refine ⟨{ (kC r' 17) with run := 1 }, m', ?_, rfl, k0, ?_⟩
  rotate_left
  · rw [k1, Nat.zero_add, Nat.mul_comm]
  · rw [he]
    exact s1.trans (s2.trans (s3.trans (s4.trans (s5.trans (haltM rfl)))))
end Go.Proofs.YthceikgkaellkaaGreat
set_option linter.unusedVariables false
set_option linter.unusedSimpArgs false
namespace Go.Proofs.YthceikgkaellkaaGreat
open Go.RowKit Go.RR
theorem mk_zero {s : Spc} {t1 t0 : Nat → Option Nat} (I0 : SpInv s t1 t0) {p : List In} (hr : ∀ i ∈ p, rightB i = true) (hl : p.length ≤ 1000) (hcl : s.code.length = 1) (hsh : s.shape = shp) (hri : s.rights = []) (hsp : s.shared = []) (hn : s.stk.next = 5) (hfi : s.stk.fin = 9)
    (no0 : ∀ j, j ≠ 0 → t1 j = none ∧ t0 j = none) : ∀ f, frameOf (mk3 s p) (0 : Nat) = some f → ∀ i, i < 4096 → (mk3 s p).u.b (f * 4096 + i) = 0 := by
  have hle : (progB p).length ≤ s.code.length * 4096 := by have := progB_len p; omega
  have hin := code_inv I0 (d := progB p) (progB_lt p) hle
  have I1 : SpInv (mk1 s p) t1 t0 := hin.1
  have hr1 : ∀ q, rightOf (mk1 s p) q = 0 := fun q => by unfold rightOf; rw [show (mk1 s p).rights = [] from hri]; rfl
  have hf1 : ∀ q, frameOf (mk1 s p) q = none := fun q => by unfold frameOf; rw [show (mk1 s p).shared = [] from hsp]; rfl
  have hn1 : (mk1 s p).stk.next = 5 := hn
  have hfi1 : (mk1 s p).stk.fin = 9 := hfi
  have hs1 : (mk1 s p).shape = shp := hsh
  obtain ⟨S1, St1, R1, F1, Z1, t1', t0', I2, n2, a1, a0, a2⟩ := set_inv I1 (p := 0) (r := 2) (by rw [hs1]; decide) (by decide) (by decide) (fun _ => by
    rw [hr1, hf1, hn1, hfi1, if_pos rfl, (no0 1 (by decide)).1, (no0 (512 + 0 / 512) (by decide)).2]
    decide)
  have e2 : (setF (mk1 s p) ((0 : Nat) : Int) 2).2 = mk2 s p := rfl
  rw [e2] at St1 R1 F1 I2 n2 Z1
  have hne : (2 : Int) ≠ rightOf (mk1 s p) ((0 : Nat) : Int) := by rw [hr1]; decide
  obtain ⟨b1, b0⟩ := a2 hne
  have hn2 : (mk2 s p).stk.next = 8 := by
    rw [n2, if_neg hne, hr1, hf1, hn1, if_pos rfl, (no0 1 (by decide)).1, (no0 (512 + 0 / 512) (by decide)).2]
    rfl
  have hr2 : rightOf (mk2 s p) ((1 : Nat) : Int) = 0 := by rw [R1, if_neg (by decide)]; exact hr1 _
  have hf2 : frameOf (mk2 s p) ((1 : Nat) : Int) = none := by rw [F1 _ (by decide)]; exact hf1 _
  have z1 : noneN (t1' 1) = 0 := by unfold noneN; cases e : t1' 1 with | none => rw [e] at b1; cases b1 | some f => rfl
  have z0 : noneN (t0' (512 + 1 / 512)) = 0 := by
    have b0' : (t0' (512 + 1 / 512)).isSome = true := b0
    unfold noneN; cases e : t0' (512 + 1 / 512) with | none => rw [e] at b0'; cases b0' | some f => rfl
  obtain ⟨S2, St2, R2, F2, Z2, t1'', t0'', I3, n3, c1, c0, c2⟩ := set_inv I2 (p := 1) (r := 1) (by rw [St1.shape, hs1]; decide) (by decide) (by decide) (fun _ => by
    rw [hr2, hf2, hn2, if_pos rfl, z1, z0, St1.fin, hfi1]
    decide)
  have e3 : (setF (mk2 s p) ((1 : Nat) : Int) 1).2 = mk3 s p := rfl
  rw [e3] at St2 F2
  intro f hf i hi
  rw [F2 _ (by decide)] at hf
  have hm := frameOf_mem hf
  rw [St2.old (f * 4096 + i) (by rw [show (f * 4096 + i) / 4096 = f by omega]; exact hm)]
  exact Z1 f (hf1 _) hf i hi
theorem made_mem {p : List In} (hr : ∀ i ∈ p, rightB i = true) (hl : p.length ≤ 1000) : Mem (madeS p) (fun _ => 0) := by
  obtain ⟨L1, L2, t1, t0, I0, nx0, fin0, no0, cl0, ol0⟩ := new_inv shp 9 4 2 rfl (by decide) (by omega)
  have e0 : newS shp 9 4 2 = made0S := rfl
  rw [e0] at I0 nx0 fin0 cl0 ol0
  have hm := (made_fin hr hl L1 L2 I0 nx0 fin0 no0 cl0 ol0 rfl rfl rfl rfl).all
  have hz := mk_zero I0 hr hl cl0 rfl rfl rfl nx0 fin0 no0
  obtain ⟨f, hf⟩ := hm.f0
  refine ⟨hm.r0, f, hf, fun k hk => ?_⟩
  exact getW_zeros fun i hi => by
    rw [Nat.add_assoc]
    exact hz f hf _ (by omega)
theorem made_shape {p : List In} (hr : ∀ i ∈ p, rightB i = true) (hl : p.length ≤ 1000) : (madeS p).shape = shp := (made_ok hr hl).all.shape.trans rfl
theorem frame_in {s : Spc} {t1 t0 : Nat → Option Nat} (h : SpInv s t1 t0) {p : Int} {f : Nat} (hf : frameOf s p = some f) : f < s.u.fr := by
  have h1 := (h.ft f (frameOf_mem hf)).1
  have h2 : s.stk.next ≤ s.stk.fin := h.inv.nx
  have h3 : s.stk.fin ≤ s.u.fr := h.inv.fin
  omega
/-- The lowest byte of a word. -/
theorem low_byte {b : By} (hb : ByOk b) (a : Nat) : b a = getW b a 8 % 256 := by
  rw [getW_step]
  have := hb a
  omega
theorem mem_byte {s : Spc} {m : Nat → Nat} (h : Mem s m) (hb : ByOk s.u.b) {k : Nat} (hk : k < 512) : dataF s (0 : Nat) (8 * k) = m k % 256 := by
  obtain ⟨f, hf, hw⟩ := h.at'
  unfold dataF
  rw [hf]
  show pgF s.u.b f (8 * k) = _
  unfold pgF
  rw [← hw k hk]
  have e : 4096 * f + 8 * k = f * 4096 + 8 * k := by omega
  first
  | (rw [e]; exact low_byte hb _)
  | exact low_byte hb _
end Go.Proofs.YthceikgkaellkaaGreat
set_option linter.unusedVariables false
set_option linter.unusedSimpArgs false
namespace Go.Proofs.YthceikgkaellkaaGreat
open Go.RowKit Go.RR
theorem rnTryM_any {w : World} {L : Pl} {s : Spc} {cb : Nat} {c : Cor} {q : List In} (h : Rn w L s cb c q) (hr : ∀ i ∈ q, rightB i = true) (hc : c.run = 0) {i : In} (hi : atP q c.pc = some i) {m : Nat → Nat} (hm : Mem s m) {x : Cor × (Nat → Nat)} (hx : coreM c m i = some x) :
    ∃ d : DidP, d.done = true ∧ Calls Tryz.prog 15 #[.pointer (some ⟨cb, 0, none⟩), .pointer (some ⟨L.ub, 0, none⟩), .int .i64 0] w (RetW d.agg fun w' => ∃ (L' : Pl) (s' : Spc), Ext L L' w ∧ Rn w' L' s' cb x.1 q ∧ Mem s' x.2 ∧ s'.shape = s.shape ∧ Chg (Blks L cb) w w') := by
  obtain ⟨t1, t0, I⟩ := h.inv
  obtain ⟨d, u', e, hd, I', P', M', hcx⟩ := try_mem I h.prog hr hc hi hm hx
  refine ⟨d, hd, ?_⟩
  have := mcTry_any (X := nilCx) h.mc hc 0 hcx (by decide) (by decide)
  rw [e] at this
  refine this.mono ?_
  rintro e' w' ⟨rfl, L', hE, hM, k⟩
  exact ⟨rfl, L', _, hE, ⟨hM, ⟨t1, t0, I'⟩, P'⟩, M', rfl, k⟩
end Go.Proofs.YthceikgkaellkaaGreat
set_option linter.unusedVariables false
set_option linter.unusedSimpArgs false
namespace Go.Proofs.YthceikgkaellkaaGreat
open Go.RowKit Go.RR
set_option maxHeartbeats 4000000 in
set_option maxRecDepth 100000 in
theorem buildNests_any (n m a0 : Nat) (w : World) (hn : n < 256) (hm : m < 256) (ha : a0 < 256) : Calls Tryz.prog 7 #[.int .u8 n, .int .u8 m, .int .u8 a0] w (RetW (.bool true) fun w' => Chg NoB w w') := by
  obtain ⟨i, hi⟩ : ∃ k, 1 + n % 5 = k := ⟨_, rfl⟩
  obtain ⟨j, hj⟩ : ∃ k, 1 + m % 5 = k := ⟨_, rfl⟩
  obtain ⟨a, hA⟩ : ∃ k, a0 % 100 = k := ⟨_, rfl⟩
  have HI : Hid (1 ≤ i ∧ i ≤ 5) := Lib.hid (by omega)
  have HJ : Hid (1 ≤ j ∧ j ≤ 5) := Lib.hid (by omega)
  have HA : Hid (a < 100) := Lib.hid (by omega)
  have q1 : IntKind.u8.wrap ((n : Int).tmod 5) = (n : Int) % 5 := by rw [IntKind.wrap_u8, Int.tmod_eq_emod_of_nonneg (by omega)]; omega
  have q2 : IntKind.u8.wrap ((m : Int).tmod 5) = (m : Int) % 5 := by rw [IntKind.wrap_u8, Int.tmod_eq_emod_of_nonneg (by omega)]; omega
  have q3 : IntKind.u8.wrap ((a0 : Int).tmod 100) = (a0 : Int) % 100 := by rw [IntKind.wrap_u8, Int.tmod_eq_emod_of_nonneg (by omega)]; omega
  have q4 : IntKind.i64.wrap (1 + (n : Int) % 5) = 1 + (n : Int) % 5 := IntWalk.i64_in _ (by omega)
  have q5 : IntKind.i64.wrap (1 + (m : Int) % 5) = 1 + (m : Int) % 5 := IntWalk.i64_in _ (by omega)
  have q6 : IntKind.i64.wrap (8 * ((a0 : Int) % 100)) = 8 * ((a0 : Int) % 100) := IntWalk.i64_in _ (by omega)
  have HQI : Hid (1 + (n : Int) % 5 = i) := Lib.hid (by omega)
  have HQJ : Hid (1 + (m : Int) % 5 = j) := Lib.hid (by omega)
  have HQA : Hid (8 * ((a0 : Int) % 100) = 8 * (a : Int)) := Lib.hid (by omega)
  clear hi hj hA
  go_enter Tryz.func7, Tryz.ntmps7
  go_wp2_with fail
  refine (first39_any _).mono ?_
  rintro e w1 ⟨rfl, C1⟩
  have HC1 := Lib.hid C1
  clear C1
  go_wp2_with fail
  refine (const_any 1 1073741824 _ (by omega) (by unfold U64; omega)).mono ?_
  rintro e w2 ⟨v2, rfl, N2⟩
  rw [base_eq] at N2
  have HN2 := Lib.hid N2.at
  have HC2 := Lib.hid (HC1.out.step N2.2)
  clear N2 HC1
  obtain ⟨p2, k2, rfl⟩ := HN2.out.form
  go_upto_region 6 with fail
  simp only [HQI.out, HQJ.out, HQA.out]
  have q7 : IntKind.i64.wrap (8 * (a : Int) + 8) = 8 * (a : Int) + 8 := IntWalk.i64_in _ (by have := HA.out; omega)
  clear q1 q2 q3 q4 q5 q6
  go_wp2_with fail
  have C3 := (Chg.refl NoB w2).alloc (.cells #[.int .i64 22, .int .i64 8, .int .i64 1, .int .i64 0, .int .i64 (8 * (a : Int) + 8), .int .i64 2, .int .i64 8, .int .i64 8, .int .i64 0, .int .i64 1, .int .i64 29, .int .i64 0, .int .i64 1, .int .i64 8, .int .i64 (8 * (a : Int) + 8)] 40)
  refine (seq_rows [.slice (some ⟨w2.heap.size, 0, none⟩) 3 3] [addM (8 * (a : Int))] (w2.alloc (.cells #[.int .i64 22, .int .i64 8, .int .i64 1, .int .i64 0, .int .i64 (8 * (a : Int) + 8), .int .i64 2, .int .i64 8, .int .i64 8, .int .i64 0, .int .i64 1, .int .i64 29, .int .i64 0, .int .i64 1, .int .i64 8, .int .i64 (8 * (a : Int) + 8)] 40)) (((IsNew.fresh w2 (addM (8 * (a : Int))) [.int .i64 22, .int .i64 8, .int .i64 1, .int .i64 0, .int .i64 (8 * (a : Int) + 8), .int .i64 2, .int .i64 8, .int .i64 8, .int .i64 0, .int .i64 1, .int .i64 29, .int .i64 0, .int .i64 1, .int .i64 8, .int .i64 (8 * (a : Int) + 8)] rfl 3 rfl (by omega)).at).rows (PRows.nil _)) (w2.heap.size + 1) (by rw [World.size_alloc]) 1 rfl (by omega) (by show 3 ≤ 100000; omega)).mono ?_
  rintro e w4 ⟨v4, rfl, N4⟩
  rw [show [addM (8 * (a : Int))].flatten = addM (8 * (a : Int)) from rfl] at N4
  have HN4 := Lib.hid N4.at
  have HB4 := Lib.hid (HN2.out.chg0 (C3.step N4.2))
  have HC4 := Lib.hid (HC2.out.step (C3.step N4.2))
  clear N4 C3 HN2 HC2
  go_wp2_with fail
  refine (within_any 1 (8 * (a : Int)) 6 7 _ (addM (8 * (a : Int))) _ HN4.out (by show 3 ≤ 1000; omega)).mono ?_
  rintro e w5 ⟨v5, rfl, N5⟩
  rw [in_eq HA.out] at N5
  have HN5 := Lib.hid N5.at
  have HB5 := Lib.hid (HB4.out.chg0 N5.2)
  have HC5 := Lib.hid (HC4.out.step N5.2)
  clear N5 HN4 HB4 HC4
  go_wp2_with fail
  refine (times_any 3 j _ (inM (8 * (a : Int))) _ HN5.out (by show 8 ≤ 1000; omega)).mono ?_
  rintro e w6 ⟨v6, rfl, N6⟩
  rw [once_eq HA.out HJ.out.1 HJ.out.2] at N6
  have HN6 := Lib.hid N6.at
  have HB6 := Lib.hid (HB5.out.chg0 N6.2)
  have HC6 := Lib.hid (HC5.out.step N6.2)
  clear N6 HN5 HB5 HC5
  go_wp2_with fail
  refine (times_any 2 i _ (onceM j (8 * (a : Int))) _ HN6.out (by show 11 ≤ 1000; omega)).mono ?_
  rintro e w7 ⟨v7, rfl, N7⟩
  rw [nest_eq HA.out HJ.out.1 HJ.out.2 HI.out.1 HI.out.2] at N7
  have HN7 := Lib.hid N7.at
  have HB7 := Lib.hid (HB6.out.chg0 N7.2)
  have HC7 := Lib.hid (HC6.out.step N7.2)
  clear N7 HN6 HB6 HC6
  obtain ⟨p7, k7, rfl⟩ := HN7.out.form
  go_wp2_with fail
  refine (seq_rows [.slice p2 baseM.length k2, .slice p7 (nestM i j (8 * (a : Int))).length k7] [baseM, nestM i j (8 * (a : Int))] w7 (HB7.out.rows (HN7.out.rows (PRows.nil _))) w7.heap.size rfl 2 rfl (by omega) (by show 17 ≤ 100000; omega)).mono ?_
  rintro e w8 ⟨v8, rfl, N8⟩
  obtain ⟨P, hP⟩ : ∃ P, baseM ++ nestM i j (8 * (a : Int)) = P := ⟨_, rfl⟩
  have hPq : P ++ [haltI] = nestQ i j (8 * (a : Int)) := by rw [← hP]; rfl
  have hl : P.length = 17 := by rw [← hP]; rfl
  rw [show [baseM, nestM i j (8 * (a : Int))].flatten = P from (by rw [← hP]; rfl)] at N8
  have hr : ∀ x ∈ nestQ i j (8 * (a : Int)), rightB x = true := nest_right HA.out HJ.out.2 HI.out.2
  obtain ⟨q, hq⟩ : ∃ q, nestQ i j (8 * (a : Int)) = q := ⟨_, rfl⟩
  rw [hq] at hPq hr
  obtain ⟨c', m', hrun, hr1, hm0, hm1⟩ := nest_run (r := fun _ => 0) (m := fun _ => 0) HI.out.1 HI.out.2 HJ.out.1 HJ.out.2 HA.out rfl rfl rfl
  rw [hq] at hrun
  have hs := N8.1.sl
  obtain ⟨vp, vc, hvf⟩ := hs.form
  subst hvf
  have HV := Lib.hid hs
  have HPL : Hid (progL q = q) := Lib.hid (by rw [← hPq]; exact progL_halt (fun x hx => hr x (by rw [← hPq]; exact List.mem_append_left _ hx)) (by omega))
  have HR := Lib.hid hr
  have HRUN := Lib.hid hrun
  have HR1 := Lib.hid hr1
  have HM0 := Lib.hid hm0
  have HM1 := Lib.hid hm1
  have HPQ := Lib.hid hPq
  have HW1 := Lib.hid (HC7.out.step N8.2)
  have HHL := Lib.hid hl
  obtain ⟨i0, hi0, hz0, hz1, hz2⟩ := info_parts INinfo
  have HIF := Lib.hid (And.intro hi0 (And.intro hz0 (And.intro hz1 hz2)))
  clear hl hP hPq hr hq hrun hr1 hm0 hm1 hs N8 HB7 HN7 HC7 hi0 hz0 hz1 hz2
  go_upto_region 8 with fail
  obtain ⟨hi0, hz0, hz1, hz2⟩ := HIF.out
  have oA : Own (w8.alloc (.cells #[] 40)) (fun k => k = w8.heap.size) 40 5 (.slice (some ⟨w8.heap.size, 0, none⟩) 0 0) 0 [] := Own.fresh w8 [] 40 0 rfl (by unfold maxLen; omega)
  have kA : Chg NoB w8 (w8.alloc (.cells #[] 40)) := (Chg.refl NoB w8).alloc _
  have sB := HV.out.chg0 kA
  have one1 := icells_one P
  have q1 : 0 + P.length ≤ maxLen := by have := HHL.out; unfold maxLen; omega
  have q2 : (0 + P.length) * 40 ≤ 140737488355328 := by have := HHL.out; omega
  have HKA := Lib.hid kA
  clear kA
  go_wp2_with (at_builtin; go_must (refine wpList_app rfl _ _ 53 rfl i0 _ 40 Tryz.underlying53 hi0 hz0 hz1 hz2 rfl rfl oA _ P.length _ rfl sB one1 q1 q2 ?_))
  intro v9 w9 o9 g9 _
  obtain ⟨p9, c9, e⟩ := o9.form
  subst e
  have HK9 : Hid (Chg NoB w8 w9) := Lib.hid (HKA.out.trans (grown_chg (S := fun k => k = w8.heap.size) g9 (fun k hk => by cases hk; rfl)) fun k hk e => by have e : k = w8.heap.size := e; omega)
  have HO9 : Hid (∀ k, (Value.slice p9 P.length c9).ownBlock = some k → w8.heap.size ≤ k) := Lib.hid fun k hk => by
    rcases (o9.ownBlock k hk).1 with e | e
    · cases e; exact Nat.le_refl _
    · omega
  have oB := o9.chg0 ((Chg.refl NoB w9).alloc (.cells #[.int .i64 0, .int .i64 0, .int .i64 0, .int .i64 0, .int .i64 0] 40))
  have sC := (IsNew.fresh w9 [haltI] _ rfl 1 rfl (by omega)).1.sl
  have one2 := icells_one [haltI]
  have q3 : P.length + 1 ≤ maxLen := by have := HHL.out; unfold maxLen; omega
  have q4 : (P.length + 1) * 40 ≤ 140737488355328 := by have := HHL.out; omega
  obtain ⟨hi0, hz0, hz1, hz2⟩ := HIF.out
  have HKB := Lib.hid (HK9.out.alloc (.cells #[.int .i64 0, .int .i64 0, .int .i64 0, .int .i64 0, .int .i64 0] 40))
  clear oA sB one1 q1 q2 o9 g9 HKA
  go_wp2_with (at_builtin; go_must (refine wpList_app rfl _ _ 53 rfl i0 _ 40 Tryz.underlying53 hi0 hz0 hz1 hz2 rfl rfl oB _ 1 _ rfl sC one2 q3 q4 ?_))
  intro v10 w10 o10 g10 _
  have e3 : icells P ++ icells [haltI] = icells (P ++ [haltI]) := (icells_app _ _).symm
  have e3' : P.length + 1 = (P ++ [haltI]).length := by rw [List.length_append]; rfl
  have o10' := o10
  rw [e3, e3', HPQ.out] at o10'
  have hql : q.length = 18 := by rw [← HPQ.out, ← e3', HHL.out]
  have HK10 : Hid (Chg NoB w8 w10) := Lib.hid (HKB.out.trans (grown_chg (S := fun k => (Value.slice p9 P.length c9).ownBlock = some k) g10 (fun k hk => hk)) fun k hk e => by have := HO9.out k e; omega)
  have HMd := Lib.hid (made_any q _ _ o10'.sl (by omega))
  rw [HPL.out] at HMd
  have HW10 := Lib.hid (HW1.out.step HK10.out)
  have HQL := Lib.hid hql
  clear oB sC one2 q3 q4 o10 o10' g10 e3 e3' hi0 hz0 hz1 hz2 HKB HV HO9 HK9 HK10 HPL hql HW1
  go_wp2_with fail
  refine HMd.out.mono ?_
  rintro e w11 ⟨v11, rfl, L, cb, xb, rb, rfl, hS, hC, hL, hcb, hap, k11⟩
  have hmk := (made_ok (p := q) HR.out (by have := HQL.out; omega)).all
  have HRn : Hid (Rn w11 L (madeS q) cb (kC (fun _ => 0) 0) q) := Lib.hid (by
    have hz : Cor.new 65536 = kC (fun _ => 0) 0 := rfl
    rw [← hz]
    exact ⟨⟨hS, hC, hap⟩, hmk.inv, hmk.prog⟩)
  have HMm := Lib.hid (made_mem HR.out (by have := HQL.out; omega))
  have HSh := Lib.hid (made_shape HR.out (by have := HQL.out; omega))
  have HLo : Hid (∀ k, Blks L cb k → w10.heap.size ≤ k) := Lib.hid fun k hk => hk.elim (fun e => e ▸ hcb) (hL k)
  have HW11 := Lib.hid (HW10.out.step k11)
  generalize madeS q = s at *
  clear hS hC hL hcb hap k11 hmk HMd HIF HPQ HHL HQL
  go_upto_block 0 with fail
  go_cut [65] from 65 to 79 (fun _ wx => ∃ (L' : Pl) (s' : Spc), Rn wx L' s' cb c' q ∧ Mem s' m' ∧ s'.shape = shp ∧ L'.pb = L.pb ∧ Chg (fun k => w10.heap.size ≤ k) w11 wx)
  case first =>
    have hSz : Hid (w10.heap.size ≤ w11.heap.size) := Lib.hid (by have := HLo.out cb (.inl rfl); have := HRn.out.mc.co.blk.lt; omega)
    go_wp2_with fail
    go_loopg [65] 2000 (fun k iv wx => ∃ (t : Nat) (L' : Pl) (s' : Spc) (c : Cor) (mm : Nat → Nat), t + k = 2000 ∧ iv = .int .i64 t ∧ Rn wx L' s' cb c q ∧ Mem s' mm ∧ s'.shape = shp ∧ L'.pb = L.pb ∧ (∀ k, Blks L' cb k → w10.heap.size ≤ k) ∧ ((c.run = 0 ∧ runM q (2000 - t) c mm = some (c', m')) ∨ (c', m') = (c, mm)) ∧ Chg (fun k => w10.heap.size ≤ k) w11 wx)
    case atStart => exact ⟨0, L, s, kC (fun _ => 0) 0, fun _ => 0, by omega, rfl, HRn.out, HMm.out, HSh.out, rfl, HLo.out, .inl ⟨rfl, HRUN.out⟩, Chg.refl _ _⟩
    case round =>
      obtain ⟨t, L', s', c, mm, hjk, rfl, hR, hM, hsh, hpb, hlo, hor, hcx⟩ := hrel
      by_cases ht : t < 2000
      · have t1 : decide ((t : Int) < 2000) = true := decide_eq_true (by omega)
        have HCX := Lib.hid hcx
        have HLX := Lib.hid hlo
        have HPB := Lib.hid hpb
        have HJK := Lib.hid hjk
        have HT := Lib.hid ht
        have HSX := Lib.hid hsh
        have HRX := Lib.hid hR
        have HMX := Lib.hid hM
        rcases hor with ⟨hrun, hrc⟩ | he
        · obtain ⟨n', hn'⟩ : ∃ n, 2000 - t = n + 1 := ⟨2000 - t - 1, by omega⟩
          rw [hn'] at hrc
          obtain ⟨ix, y, hi, hx, hor⟩ := runM_step hrc
          obtain ⟨d, hd, hT⟩ := rnTryM_any hR HR.out hrun hi hM hx
          have hRn := coreRun_any hR.mc.co
          rw [hrun] at hRn
          have HRun := Lib.hid hRn
          have HU : Hid (Calls Tryz.prog 16 #[.pointer (some ⟨L.pb, 0, none⟩)] wr (RetW (.pointer (some ⟨L'.ub, 0, none⟩)) fun w' => w' = wr)) := Lib.hid (by
            have := sUnit_any hR.mc.sp
            rw [hpb] at this
            exact this)
          have HTr := Lib.hid hT
          have HOR := Lib.hid hor
          have HN := Lib.hid hn'
          have q2 : IntKind.i64.wrap ((t : Int) + 1) = ((t + 1 : Nat) : Int) := IntWalk.i64_in _ (by omega)
          clear hR hM hsh hpb hlo hrc hcx hjk ht hi hx hor hT hn' hRn hrun
          go_wp2_with fail
          refine HRun.out.mono ?_
          rintro e wv ⟨rfl, hwv⟩
          subst hwv
          go_wp2_with fail
          refine HU.out.mono ?_
          rintro e wv ⟨rfl, hwv⟩
          subst hwv
          go_wp2_with fail
          refine HTr.out.mono ?_
          rintro e w5 ⟨rfl, L5, s5, hE, hR5, hM5, hsh5, k5⟩
          have HR5 := Lib.hid hR5
          have HM5 := Lib.hid hM5
          have HS5 := Lib.hid (hsh5.trans HSX.out)
          have HPB5 : Hid (L5.pb = L.pb) := Lib.hid (hE.1.trans HPB.out)
          have HLX5 : Hid (∀ k, Blks L5 cb k → w10.heap.size ≤ k) := Lib.hid fun k hk => hk.elim (fun e => HLX.out k (.inl e)) fun e => (hE.2.2 k e).elim (fun e => HLX.out k (.inr e)) fun e => by have := hSz.out; have := HCX.out.size; omega
          have HCX5 : Hid (Chg (fun k => w10.heap.size ≤ k) w11 w5) := Lib.hid (HCX.out.step (k5.mono fun k _ e => HLX.out k e))
          clear hE hR5 hM5 hsh5 k5 HTr HU HRX HMX HSX HPB HLX HCX
          obtain ⟨d0, d1, d2, d3, d4, d5, d6, d7, d8⟩ := d
          have hd : d0 = true := hd
          subst hd
          obtain ⟨io, id', is, it, im⟩ := d1
          simp only [DidP.agg, DidP.cells]
          have hfd := did_done
          go_wp2_with fail
          clear hfd
          go_roundg (2000 - (t + 1))
          case rel =>
            refine ⟨t + 1, L5, s5, y.1, y.2, by have := HT.out; omega, by go_num, HR5.out, HM5.out, HS5.out, HPB5.out, HLX5.out, ?_, HCX5.out⟩
            rcases HOR.out with ⟨h0, h1⟩ | ⟨h0, h1⟩
            · exact .inl ⟨h0, by rw [show 2000 - (t + 1) = n' by have := HN.out; omega]; exact h1⟩
            · exact .inr h1.symm
          case measure => have := HT.out; have := HJK.out; omega
        · have hRn := coreRun_any hR.mc.co
          have e1 : c' = c := congrArg Prod.fst he
          have e2 : m' = mm := congrArg Prod.snd he
          subst e1 e2
          rw [HR1.out] at hRn
          have HRun := Lib.hid hRn
          clear hR hM hsh hpb hlo hcx hjk ht hRn he
          go_wp2_with fail
          refine HRun.out.mono ?_
          rintro e wv ⟨rfl, hwv⟩
          subst hwv
          go_wp2_with fail
          go_meet
          exact ⟨L', s', HRX.out, HMX.out, HSX.out, HPB.out, HCX.out⟩
      · have e0 : t = 2000 := by omega
        subst e0
        have t1 : decide (((2000 : Nat) : Int) < 2000) = false := rfl
        have he : (c', m') = (c, mm) := by
          rcases hor with ⟨hrun, hrc⟩ | he
          · rw [Nat.sub_self] at hrc
            exact (Option.some.inj (show some (c, mm) = some (c', m') from hrc)).symm
          · exact he
        have e1 : c' = c := congrArg Prod.fst he
        have e2 : m' = mm := congrArg Prod.snd he
        subst e1 e2
        have HCX := Lib.hid hcx
        have HPB := Lib.hid hpb
        have HSX := Lib.hid hsh
        have HRX := Lib.hid hR
        have HMX := Lib.hid hM
        clear hR hM hsh hpb hlo hor hcx hjk ht he
        go_wp2_with fail
        go_meet
        exact ⟨L', s', HRX.out, HMX.out, HSX.out, HPB.out, HCX.out⟩
  case rest =>
    obtain ⟨L', s', hR, hM, hsh, hpb, hcx⟩ := hcut
    rename World => wr
    obtain ⟨t1, t0, I⟩ := hR.inv
    have HDa := Lib.hid (data_any hR.mc.sp ((0 : Nat) : Int) (by decide) (by rw [hsh]; decide) (fun f hf => frame_in I hf))
    rw [hpb] at HDa
    have hby := hR.mc.sp.mu.mem.ok
    have hb0 := mem_byte hM hby (k := a) (by have := HA.out; omega)
    have hb1 := mem_byte hM hby (k := a + 1) (by have := HA.out; omega)
    rw [HM0.out] at hb0
    rw [HM1.out] at hb1
    have hRn := coreRun_any hR.mc.co
    rw [HR1.out] at hRn
    have HRun := Lib.hid hRn
    have HCX := Lib.hid (HW11.out.trans hcx fun k hk e => by have e : w10.heap.size ≤ k := e; have := HW10.out.size; omega)
    have HB0 := Lib.hid hb0
    have HB1 := Lib.hid hb1
    have HMC := Lib.hid hR.mc.co
    have hij : i * j ≤ 25 := Nat.mul_le_mul HI.out.2 HJ.out.2
    have HIJ := Lib.hid hij
    clear hR hM hsh hpb hcx I hby hb0 hb1 hRn hij HRn HMm HSh HLo HW11 HW10
    go_wp2_with fail
    refine HDa.out.mono ?_
    rintro e w12 ⟨vd, rfl, hO, k12⟩
    obtain ⟨-, pz, cz, e, hcz, hsz⟩ := hO.sl
    subst e
    obtain ⟨g, of, rfl, -, hg, hcell⟩ := hsz (by omega)
    have x1 := hcell (8 * a + 8) _ (bcells_get (by have := HA.out; omega))
    have x0 := hcell (8 * a) _ (bcells_get (by have := HA.out; omega))
    have hb1 := HB1.out
    rw [show 8 * (a + 1) = 8 * a + 8 by omega, Nat.mod_eq_of_lt (by have := HIJ.out; omega)] at hb1
    rw [hb1, Int.natCast_mul] at x1
    rw [HB0.out] at x0
    replace x0 : w12.cell? ⟨g, of + 8 * a, none⟩ = some (.int .u8 0) := x0
    have HK12 := Lib.hid (HCX.out.step k12)
    have HRun2 := Lib.hid (coreRun_any (HMC.out.chg k12 fun h => h))
    rw [HR1.out] at HRun2
    have q2 : IntKind.i64.wrap ((i : Int) * (j : Int)) = (i : Int) * (j : Int) := by
      have : ((i * j : Nat) : Int) ≤ 25 := by have := HIJ.out; omega
      rw [Int.natCast_mul] at this
      exact IntWalk.i64_in _ (by have := Int.mul_nonneg (Int.natCast_nonneg i) (Int.natCast_nonneg j); omega)
    have n1 : IntKind.i64.wrap (8 * (a : Int) + 8) = 8 * (a : Int) + 8 := q7
    have n2 : (8 * (a : Int) + 8).toNat = 8 * a + 8 := by omega
    have n3 : (0 : Int) ≤ 8 * (a : Int) + 8 := by omega
    have n4 : 8 * (a : Int) + 8 < 4096 := by have := HA.out; omega
    have n5 : IntKind.i64.wrap (8 * (a : Int)) = 8 * (a : Int) := IntWalk.i64_in _ (by have := HA.out; omega)
    have n6 : (8 * (a : Int)).toNat = 8 * a := by omega
    have n7 : (0 : Int) ≤ 8 * (a : Int) := by omega
    have n8 : 8 * (a : Int) < 4096 := by have := HA.out; omega
    clear hb1 hcell hsz hO k12 HB0 HB1 HMC HRun
    go_wp2_with fail
    refine HRun2.out.mono ?_
    rintro e wv ⟨rfl, hwv⟩
    subst hwv
    go_wp2_with fail
    go_ret
    exact ⟨rfl, HK12.out⟩
end Go.Proofs.YthceikgkaellkaaGreat
