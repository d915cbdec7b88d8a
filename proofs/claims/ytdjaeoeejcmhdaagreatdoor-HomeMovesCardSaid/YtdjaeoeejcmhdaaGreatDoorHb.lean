/- Spaces: a page's right is set; what stays. Plain, no program. No condition. The audit: what is read of a space: frames, used ones, which page an address is in. No condition. The audit: how many frames a space needs; a new home; links. No condition. Homes and nodes that run: what lies where. No condition. A region that draws its order, where one operation may be taken at any time and makes memory, and the others are forced or may be taken first. No condition. Pages of homes that run. No condition. -/
import Derived.Test.YtdjaeoeejcmhdaaGreatDoorHa
import Derived.Test.YtdjaeoeejcmhdaaGreatDoorGb
import Derived.Test.YtdjaeoeejcmhdaaGreatDoorGy
import Derived.Deep.LoopGhost
import Derived.Test.YtdjaeoeejcmhdaaGreatDoorGa
set_option linter.unusedVariables false
set_option linter.unusedSimpArgs false
namespace Go.Proofs.YtdjaeoeejcmhdaaGreatDoor
open Go.RowKit Go.RR
theorem va_page (p : Nat) (h : p < 65536) : vpn (vaOf p) = 262144 + p ∧ canonB (vaOf p) = true := by
  have : vaOf p = 1073741824 + p * 4096 := by unfold vaOf; simp
  rw [this]
  refine ⟨by unfold vpn; omega, ?_⟩
  unfold canonB
  rw [decide_eq_true (by omega)]
  rfl
theorem rightOf_put {s s' : Spc} {p r : Int} (h : s'.rights = putI s.rights p r) (q : Int) : rightOf s' q = if q = p then r else rightOf s q := by
  unfold rightOf
  rw [h, putI_find]
  split <;> rfl
/-- Entries behind a right that was set. -/
theorem lf_put {s s' : Spc} {p f : Nat} {r : Int} (hc : s'.code = s.code) (ho : s'.own = s.own) (hs : s'.shared = s.shared) (hr : s'.rights = putI s.rights p r) (hcl : s.code.length ≤ 16) (hol : s.own.length ≤ 16) (hf : frameOf s p = some f) (v : Nat) :
    s'.lf v = if v = 262144 + p then (if r = 0 then none else some ((if r = 2 then ownP else readP) f)) else s.lf v := by
  have hfo : ∀ q, frameOf s' q = frameOf s q := fun q => by unfold frameOf; rw [hs]
  unfold Spc.lf
  rw [hc, ho]
  by_cases hv : v = 262144 + p
  · subst hv
    rw [if_neg (by omega), if_neg (by omega), if_pos rfl, show 262144 + p - 262144 = p by omega, rightOf_put hr, if_pos rfl, hfo, hf]
    by_cases h0 : r = 0
    · rw [if_neg (by omega), if_pos h0]
    · rw [if_pos ⟨by omega, h0⟩, if_neg h0]; rfl
  · rw [if_neg hv]
    by_cases h1 : 262144 ≤ v
    · have hq : rightOf s' ((v - 262144 : Nat) : Int) = rightOf s ((v - 262144 : Nat) : Int) := (rightOf_put hr _).trans (if_neg (by omega))
      rw [hq, hfo]
    · have n1 : ∀ x : Int, ¬ (262144 ≤ v ∧ x ≠ 0) := fun _ e => h1 e.1
      simp only [n1, if_false]
/-- What stays of a space whose page got a right. -/
structure Stay (s s' : Spc) : Prop where
  shape : s'.shape = s.shape
  code : s'.code = s.code
  own : s'.own = s.own
  root : s'.root = s.root
  fr : s'.u.fr = s.u.fr
  fin : s'.stk.fin = s.stk.fin
  nx : s.stk.next ≤ s'.stk.next
  frm : ∀ q f, frameOf s q = some f → frameOf s' q = some f
  old : ∀ a, a / 4096 ∈ s.frames → s'.u.b a = s.u.b a
theorem Stay.refl (s : Spc) : Stay s s := ⟨rfl, rfl, rfl, rfl, rfl, rfl, Nat.le_refl _, fun _ _ e => e, fun _ _ => rfl⟩
theorem fence_goes {s s' : Spc} {p : Nat} {tl : Tlb} (hp : p < 65536) (h : Coh tl s.lf) (hl : ∀ v, v ≠ 262144 + p → s'.lf v = s.lf v) : Coh (tlbFence tl (vaOf p)) s'.lf :=
  tlbFence_coh h fun v hv => hl v (by rw [(va_page p hp).1] at hv; exact hv)
def ent (r : Int) (f : Nat) : Pte := (if r = 2 then ownP else readP) f
theorem ent_eq (r : Int) (f : Nat) : (if r = 2 then ownP f else readP f) = ent r f := by unfold ent; split <;> rfl
theorem mayB_e (r : Int) {f : Nat} (hf : f < 1048576) : mayB (ent r f) = true := by
  unfold ent
  split
  · exact mayB_ent ent_own hf
  · exact mayB_ent ent_read hf
/-- A space whose memory and whose page's right are others. -/
def Spc.wr (s : Spc) (b : By) (p : Nat) (r : Int) : Spc := { s with u := { s.u with b := b, tlb := tlbFence s.u.tlb (vaOf p) }, rights := putI s.rights p r }
/-- A space behind a write to a last table's place. -/
theorem SpInv.write {s : Spc} {t1 t0 : Nat → Option Nat} (h : SpInv s t1 t0) {p f : Nat} {r : Int} (hp : (p : Int) < s.shape.shared) (h0 : 0 ≤ r) (h2 : r ≤ 2) (hf : frameOf s p = some f) (hT : (t0 ((262144 + p) / 512)).isSome = true) :
    SpInv (s.wr (putW s.u.b (leafPos t0 (262144 + p)) 8 (if r = 0 then 0 else pteW (ent r f))) p r) t1 t0 ∧
    Stay s (s.wr (putW s.u.b (leafPos t0 (262144 + p)) 8 (if r = 0 then 0 else pteW (ent r f))) p r) := by
  have hsh := h.sh
  have hlf := lf_put (s := s) (s' := s.wr (putW s.u.b (leafPos t0 (262144 + p)) 8 (if r = 0 then 0 else pteW (ent r f))) p r) (p := p) (f := f) (r := r) rfl rfl rfl rfl h.cl h.ol hf
  obtain ⟨g, hg⟩ : ∃ g, t0 ((262144 + p) / 512) = some g := Option.isSome_iff_exists.1 hT
  have hpos : leafPos t0 (262144 + p) = g * 4096 + 8 * ((262144 + p) % 512) := by unfold leafPos; rw [hg]; rfl
  have hfl := h.ft f (frameOf_mem hf)
  have hfr := h.fr
  have hnx := h.inv.nx
  have hfin := h.inv.fin
  have en : s.tst.s.next = s.stk.next := rfl
  have hf20 : f < 1048576 := by omega
  have hI := h.inv.lay (q := (262144 + p) / 512) (k := (262144 + p) % 512) (f := g) (by omega) (by omega) hg (if r = 0 then 0 else pteW (ent r f)) (if r = 0 then none else some (ent r f)) (s.wr (putW s.u.b (leafPos t0 (262144 + p)) 8 (if r = 0 then 0 else pteW (ent r f))) p r).lf (by split <;> rfl) (by
    split
    · decide
    · exact Nat.lt_trans (pteW_lt _) (by decide)) (by rw [show 512 * ((262144 + p) / 512) + (262144 + p) % 512 = 262144 + p by omega, hlf, if_pos rfl]; rfl) (fun v hv => by rw [hlf, if_neg (by omega)]) (fun q hq => by
    split at hq
    · cases hq
    · cases hq; exact mayB_of (mayB_e r hf20))
  rw [← hpos] at hI
  refine ⟨⟨hI, fence_goes (by omega) h.coh fun v hv => by rw [hlf, if_neg hv], h.sat, h.mode, h.fr, h.nd, h.ft, h.cl, h.ol, h.sh, fun q hq => ?_, fun q hq => ?_⟩, ⟨rfl, rfl, rfl, rfl, rfl, rfl, Nat.le_refl _, fun _ _ e => e, fun a ha => ?_⟩⟩
  · show (frameOf s q).isSome = true
    rw [rightOf_put (s := s) (p := p) (r := r) rfl] at hq
    by_cases hqp : q = p
    · rw [hqp, hf]; rfl
    · rw [if_neg hqp] at hq; exact h.rf q hq
  · rw [rightOf_put (s := s) (p := p) (r := r) rfl] at hq
    by_cases hqp : q = p
    · rw [hqp]; exact ⟨by omega, hp⟩
    · rw [if_neg hqp] at hq; exact h.rp q hq
  · show putW s.u.b _ 8 _ a = _
    have : a / 4096 ≠ g := fun e => (h.ft _ ha).2 (.inr (.inr ⟨(262144 + p) / 512, by omega, by rw [hg, e]⟩))
    rw [hpos, putW_out (by omega)]
theorem lf_at {s : Spc} {p f : Nat} (hcl : s.code.length ≤ 16) (hol : s.own.length ≤ 16) (hf : frameOf s p = some f) : s.lf (262144 + p) = if rightOf s p = 0 then none else some (ent (rightOf s p) f) := by
  unfold Spc.lf
  rw [if_neg (by omega), if_neg (by omega), show 262144 + p - 262144 = p by omega, hf]
  by_cases h : rightOf s p = 0
  · rw [if_neg (fun e => e.2 h), if_pos h]
  · rw [if_pos ⟨by omega, h⟩, if_neg h]; rfl
/-- A page that has a frame gets another right. -/
theorem remap_inv {s : Spc} {t1 t0 : Nat → Option Nat} (h : SpInv s t1 t0) {p f : Nat} {r : Int} (hp : (p : Int) < s.shape.shared) (h0 : 0 ≤ r) (h2 : r ≤ 2) (hf : frameOf s p = some f) (hne : r ≠ rightOf s p)
    (room : rightOf s p = 0 → s.stk.next + noneN (t1 1) + noneN (t0 (512 + p / 512)) ≤ s.stk.fin) :
    RemOk s p f r ∧ (remapF s p f r).1 = 0 ∧ ∃ s', { (remapF s p f r).2 with rights := putI (remapF s p f r).2.rights p r, u := { (remapF s p f r).2.u with tlb := tlbFence (remapF s p f r).2.u.tlb (vaOf p) } } = s' ∧ s'.shared = s.shared ∧ s'.rights = putI s.rights p r ∧ Stay s s' ∧
      ∃ t1' t0', SpInv s' t1' t0' ∧ s'.stk.next = s.stk.next + (if rightOf s p = 0 then noneN (t1 1) + noneN (t0 (512 + p / 512)) else 0) ∧ (∀ j, j ≠ 1 → t1' j = t1 j) ∧ (∀ j, j ≠ 512 + p / 512 → t0' j = t0 j) ∧ (t1' 1).isSome = true ∧ (t0' (512 + p / 512)).isSome = true := by
  have hsh := h.sh
  obtain ⟨hvp, hcan⟩ := va_page p (by omega)
  have hla := lf_at h.cl h.ol hf
  have hfl := h.ft f (frameOf_mem hf)
  have hfr := h.fr
  have hnx := h.inv.nx
  have hfin := h.inv.fin
  have en : s.tst.s.next = s.stk.next := rfl
  have ef : s.tst.s.fin = s.stk.fin := rfl
  have hf20 : f < 1048576 := by omega
  have hq : (262144 + p) / 512 = 512 + p / 512 := by omega
  by_cases hz : rightOf s p = 0
  · rw [if_pos hz] at hla
    rw [if_pos hz]
    have hr0 : r ≠ 0 := fun e => hne (by rw [hz, e])
    have room' := room hz
    obtain ⟨f1, f0, m0, m1, m2, m3, m4⟩ := map_tab h.inv h.fr (va := vaOf p) (p := ent r f) hcan (mayB_e r hf20) (by rw [hvp]; exact hla) (by
      rw [hvp, show (262144 + p) / 262144 = 1 by omega, hq, en, ef]
      exact room')
    rw [hvp, show (262144 + p) / 262144 = 1 by omega, hq] at m2 m3 m4
    have hR : remapF s p f r = (0, s.withT (mapF s.root s.tst (vaOf p) (ent r f)).2) := by
      unfold remapF
      rw [if_neg hr0, if_pos hz]
      dsimp only
      rw [ent_eq, m0]
    refine ⟨⟨fun e => absurd e hr0, fun _ _ => ⟨m1, by rw [ent_eq]; exact m0⟩, fun _ e => absurd hz e⟩, by rw [hR], _, rfl, by rw [hR]; rfl, by rw [hR]; rfl, ?_, setO t1 1 f1, setO t0 (512 + p / 512) f0, ?_, ?_, fun j hj => setO_ne _ _ hj, fun j hj => setO_ne _ _ hj, by rw [setO_at]; rfl, by rw [setO_at]; rfl⟩
    · rw [hR]
      refine ⟨rfl, rfl, rfl, rfl, rfl, m4.fin, m4.nx, fun _ _ e => e, fun a ha => ?_⟩
      obtain ⟨a1, a2⟩ := h.ft _ ha
      exact m4.off a a2 a1
    · rw [hR]
      have hlf := lf_put (s := s) (s' := { (s.withT (mapF s.root s.tst (vaOf p) (ent r f)).2) with rights := putI (s.withT (mapF s.root s.tst (vaOf p) (ent r f)).2).rights p r, u := { (s.withT (mapF s.root s.tst (vaOf p) (ent r f)).2).u with tlb := tlbFence (s.withT (mapF s.root s.tst (vaOf p) (ent r f)).2).u.tlb (vaOf p) } }) (p := p) (f := f) (r := r) rfl rfl rfl rfl h.cl h.ol hf
      have elf : ({ (s.withT (mapF s.root s.tst (vaOf p) (ent r f)).2) with rights := putI (s.withT (mapF s.root s.tst (vaOf p) (ent r f)).2).rights p r, u := { (s.withT (mapF s.root s.tst (vaOf p) (ent r f)).2).u with tlb := tlbFence (s.withT (mapF s.root s.tst (vaOf p) (ent r f)).2).u.tlb (vaOf p) } } : Spc).lf = setO s.lf (262144 + p) (ent r f) := by
        funext v
        rw [hlf]
        by_cases hv : v = 262144 + p
        · rw [if_pos hv, if_neg hr0, hv, setO_at]; rfl
        · rw [if_neg hv, setO_ne _ _ hv]
      refine ⟨?_, fence_goes (by omega) h.coh fun v hv => by rw [hlf, if_neg hv], h.sat, h.mode, h.fr, h.nd, fun g hg => ?_, h.cl, h.ol, h.sh, fun q hq => ?_, fun q hq => ?_⟩
      · rw [elf]; exact m2
      · obtain ⟨a1, a2⟩ := h.ft g hg
        refine ⟨Nat.lt_of_lt_of_le a1 m4.nx, fun hT => ?_⟩
        exact (m4.tab g hT).elim a2 fun e => by omega
      · show (frameOf s q).isSome = true
        rw [rightOf_put (s := s) (p := p) (r := r) rfl] at hq
        by_cases hqp : q = p
        · rw [hqp, hf]; rfl
        · rw [if_neg hqp] at hq; exact h.rf q hq
      · rw [rightOf_put (s := s) (p := p) (r := r) rfl] at hq
        by_cases hqp : q = p
        · rw [hqp]; exact ⟨by omega, hp⟩
        · rw [if_neg hqp] at hq; exact h.rp q hq
    · rw [hR]
      show (mapF s.root s.tst (vaOf p) (ent r f)).2.s.next = _
      rw [m3]
      show s.stk.next + noneN _ + noneN _ = _
      omega
  · rw [if_neg hz] at hla
    rw [if_neg hz]
    have hfind := find_tab h.inv.tab h.fr hcan
    rw [hvp, hla] at hfind
    obtain ⟨hT, -, -, -⟩ := h.inv.tab.lk _ _ (by omega) hla
    rw [hq] at hT
    obtain ⟨g, hg⟩ : ∃ g, t0 (512 + p / 512) = some g := Option.isSome_iff_exists.1 hT
    obtain ⟨gf, gi, -⟩ := h.inv.tab.el _ g (by omega) hg
    rw [show (512 + p / 512) / 512 = 1 by omega] at gi
    have hpos : leafPos t0 (262144 + p) = g * 4096 + 8 * ((262144 + p) % 512) := by unfold leafPos; rw [hq, hg]; rfl
    have hpf : leafPos t0 (262144 + p) / 4096 < s.u.fr := by rw [hpos]; omega
    have hp8 : leafPos t0 (262144 + p) % 8 = 0 := by rw [hpos]; omega
    have hfind' : findF s.u.b s.u.fr s.root (vaOf p) = (⟨ent (rightOf s p) f, 0, leafPos t0 (262144 + p)⟩, 0) := hfind
    obtain ⟨I1, I2⟩ := h.write (r := r) hp h0 h2 hf (by rw [hq]; exact hT)
    by_cases hr0 : r = 0
    · subst hr0
      have hR : remapF s p f 0 = (0, { s with u := { s.u with b := putW s.u.b (leafPos t0 (262144 + p)) 8 0 } }) := by
        unfold remapF unmapF
        rw [if_pos rfl, hfind']
        rfl
      refine ⟨⟨fun _ => ⟨_, _, hfind', hpf, hp8⟩, fun e => absurd rfl e, fun e => absurd rfl e⟩, by rw [hR], _, rfl, by rw [hR], by rw [hR], by rw [hR]; exact I2, t1, t0, by rw [hR]; exact I1, by rw [hR]; rfl, fun _ _ => rfl, fun _ _ => rfl, gi, hT⟩
    · rw [if_neg hr0] at I1 I2
      have hR : remapF s p f r = (0, { s with u := { s.u with b := putW s.u.b (leafPos t0 (262144 + p)) 8 (pteW (ent r f)) } }) := by
        have hm : mayL (ent r f) 0 = true := mayB_e r hf20
        unfold remapF changeF
        rw [if_neg hr0, if_neg hz]
        dsimp only
        rw [ent_eq, hfind']
        simp only [ne_eq, not_true_eq_false, if_false, Int.toNat_zero, hm, Bool.not_true, Bool.false_eq_true]
      refine ⟨⟨fun e => absurd e hr0, fun _ e => absurd e hz, fun _ _ => ⟨_, _, hfind', hpf, hp8⟩⟩, by rw [hR], _, rfl, by rw [hR], by rw [hR], by rw [hR]; exact I2, t1, t0, by rw [hR]; exact I1, by rw [hR]; rfl, fun _ _ => rfl, fun _ _ => rfl, gi, hT⟩
/-- A page gets a frame. -/
theorem frame_inv {s : Spc} {t1 t0 : Nat → Option Nat} (h : SpInv s t1 t0) {p : Int} (hn : frameOf s p = none) (hr : s.stk.next < s.stk.fin) :
    ∃ s', frameF s p = ((s.stk.next, 0), s') ∧ SpInv s' t1 t0 ∧ Stay s s' ∧ s'.stk.next = s.stk.next + 1 ∧ frameOf s' p = some s.stk.next ∧ (∀ q, q ≠ p → frameOf s' q = frameOf s q) ∧ s'.rights = s.rights ∧ (∀ i, i < 4096 → s'.u.b (s.stk.next * 4096 + i) = 0) := by
  have hfind : (s.shared.find? fun x => x.1 == p) = none := by
    unfold frameOf at hn
    cases e : s.shared.find? fun x => x.1 == p with
    | none => rfl
    | some x => rw [e] at hn; cases hn
  have hF : frameF s p = ((s.stk.next, 0), { s with stk := { s.stk with next := s.stk.next + 1, taken := addN s.stk.taken s.stk.next }, u := { s.u with b := zeroPg s.u.b s.stk.next }, shared := putI s.shared p s.stk.next }) := by
    unfold frameF
    rw [hn, take_room hr]
  have hfo : ∀ q, frameOf { s with stk := { s.stk with next := s.stk.next + 1, taken := addN s.stk.taken s.stk.next }, u := { s.u with b := zeroPg s.u.b s.stk.next }, shared := putI s.shared p s.stk.next } q = if q = p then some s.stk.next else frameOf s q := fun q => by
    unfold frameOf
    exact putI_find q p _ _
  have hfr' : ({ s with stk := { s.stk with next := s.stk.next + 1, taken := addN s.stk.taken s.stk.next }, u := { s.u with b := zeroPg s.u.b s.stk.next }, shared := putI s.shared p s.stk.next } : Spc).frames = s.frames ++ [s.stk.next] := by
    unfold Spc.frames
    dsimp only
    rw [putI_new p _ _ hfind, List.map_append, ← List.append_assoc]
    rfl
  have hlf : ({ s with stk := { s.stk with next := s.stk.next + 1, taken := addN s.stk.taken s.stk.next }, u := { s.u with b := zeroPg s.u.b s.stk.next }, shared := putI s.shared p s.stk.next } : Spc).lf = s.lf := by
    funext v
    unfold Spc.lf
    rw [hfo]
    by_cases hv : 262144 ≤ v ∧ rightOf s ((v - 262144 : Nat) : Int) ≠ 0
    · have hvp : ((v - 262144 : Nat) : Int) ≠ p := fun e => by
        have := h.rf _ hv.2
        rw [e, hn] at this
        cases this
      rw [if_neg hvp]
      rfl
    · have hv' : ¬ (262144 ≤ v ∧ rightOf { s with stk := { s.stk with next := s.stk.next + 1, taken := addN s.stk.taken s.stk.next }, u := { s.u with b := zeroPg s.u.b s.stk.next }, shared := putI s.shared p s.stk.next } ((v - 262144 : Nat) : Int) ≠ 0) := hv
      rw [if_neg hv, if_neg hv']
  have hlo := h.inv.lo
  have en : s.tst.s.next = s.stk.next := rfl
  refine ⟨_, hF, ⟨?_, ?_, h.sat, h.mode, h.fr, ?_, ?_, h.cl, h.ol, h.sh, fun q hq => ?_, h.rp⟩, ⟨rfl, rfl, rfl, rfl, rfl, rfl, Nat.le_succ _, fun q f e => ?_, fun a ha => ?_⟩, rfl, by rw [hfo, if_pos rfl], fun q hq => by rw [hfo, if_neg hq], rfl, fun i hi => if_pos (by omega)⟩
  · rw [hlf]
    have hi := h.inv
    refine ⟨hi.tab.other fun a ha => ?_, hr, hi.fin, fun f hf => Nat.lt_succ_of_lt (hi.lo f hf), hi.i1, hi.i0, hi.d, hi.r1, hi.r0⟩
    have := hlo _ ha
    exact if_neg (by omega)
  · rw [hlf]; exact h.coh
  · rw [hfr', List.nodup_append]
    refine ⟨h.nd, List.nodup_cons.2 ⟨List.not_mem_nil, List.nodup_nil⟩, fun a ha b hb => ?_⟩
    rw [List.mem_singleton.1 hb]
    have := (h.ft a ha).1
    omega
  · intro f hf
    rw [hfr', List.mem_append, List.mem_singleton] at hf
    show f < s.stk.next + 1 ∧ _
    rcases hf with hf | rfl
    · obtain ⟨a1, a2⟩ := h.ft f hf
      exact ⟨by omega, a2⟩
    · exact ⟨by omega, fun hT => by have := hlo _ hT; omega⟩
  · rw [hfo]
    split
    · rfl
    · exact h.rf q hq
  · rw [hfo]
    split
    · rename_i e'; rw [e', hn] at e; cases e
    · exact e
  · have := (h.ft _ ha).1
    exact if_neg (by omega)
/-- A page's right is set. -/
theorem set_inv {s : Spc} {t1 t0 : Nat → Option Nat} (h : SpInv s t1 t0) {p : Nat} {r : Int} (hp : (p : Int) < s.shape.shared) (h0 : 0 ≤ r) (h2 : r ≤ 2)
    (room : r ≠ rightOf s p → s.stk.next + noneN (frameOf s p) + (if rightOf s p = 0 then noneN (t1 1) + noneN (t0 (512 + p / 512)) else 0) ≤ s.stk.fin) :
    SetOk s p r ∧ Stay s (setF s p r).2 ∧ (∀ q, rightOf (setF s p r).2 q = if q = p then r else rightOf s q) ∧ (∀ q : Int, q ≠ p → frameOf (setF s p r).2 q = frameOf s q) ∧
    (∀ f, frameOf s p = none → frameOf (setF s p r).2 p = some f → ∀ i, i < 4096 → (setF s p r).2.u.b (f * 4096 + i) = 0) ∧
    ∃ t1' t0', SpInv (setF s p r).2 t1' t0' ∧ (setF s p r).2.stk.next = s.stk.next + (if r = rightOf s p then 0 else noneN (frameOf s p) + (if rightOf s p = 0 then noneN (t1 1) + noneN (t0 (512 + p / 512)) else 0)) ∧ (∀ j, j ≠ 1 → t1' j = t1 j) ∧ (∀ j, j ≠ 512 + p / 512 → t0' j = t0 j) ∧
      (r ≠ rightOf s p → (t1' 1).isSome = true ∧ (t0' (512 + p / 512)).isSome = true) := by
  have hsh := h.sh
  have e1 : ¬ ((p : Int) < 0 ∨ s.shape.shared ≤ p) := by omega
  have e2 : ¬ (r < 0 ∨ 2 < r) := by omega
  by_cases hr : r = rightOf s p
  · have hS : setF s p r = (0, s) := by unfold setF; rw [if_neg e1, if_neg e2, if_pos hr]
    rw [hS]
    refine ⟨⟨hp, hsh, h0, h2, fun e => absurd hr e⟩, Stay.refl s, fun q => ?_, fun _ _ => rfl, fun f a b => (by rw [a] at b; cases b), t1, t0, h, by rw [if_pos hr]; rfl, fun _ _ => rfl, fun _ _ => rfl, fun e => absurd hr e⟩
    split
    · rename_i e; rw [e, hr]
    · rfl
  · have room' := room hr
    cases hf : frameOf s p with
    | some f =>
      rw [hf] at room'
      have hn0 : noneN (some f) = 0 := rfl
      obtain ⟨R, r1, s', es, e3, e4, st, t1', t0', I, e5, e6, e7, e8, e9⟩ := remap_inv h hp h0 h2 hf hr (fun hz => by rw [if_pos hz] at room'; omega)
      have hF : frameF s p = ((f, 0), s) := by unfold frameF; rw [hf]
      have hS : setF s p r = (0, s') := by
        unfold setF
        rw [if_neg e1, if_neg e2, if_neg hr, hF]
        dsimp only
        rw [if_neg (by simp), r1, if_neg (by simp), es]
      rw [hS]
      have hf20 : f < 17592186044416 := by
        have := (h.ft f (frameOf_mem hf)).1
        have := h.inv.nx; have := h.inv.fin; have := h.fr
        have en : s.tst.s.next = s.stk.next := rfl
        omega
      refine ⟨⟨hp, hsh, h0, h2, fun _ => .inl ⟨f, hf, hf20, R⟩⟩, st, fun q => ?_, fun q hq => ?_, fun g a => (by cases a), t1', t0', I, by rw [if_neg hr, hn0, Nat.zero_add]; exact e5, e6, e7, fun _ => ⟨e8, e9⟩⟩
      · rw [rightOf_put e4]
      · show frameOf s' q = _
        unfold frameOf; rw [e3]
    | none =>
      rw [hf] at room'
      have hn1 : noneN (none : Option Nat) = 1 := rfl
      obtain ⟨sa, hF, Ia, Sa, na, fa, fb, ra, za⟩ := frame_inv h hf (by omega)
      have hra : ∀ q, rightOf sa q = rightOf s q := fun q => by unfold rightOf; rw [ra]
      have ef := Sa.fin
      obtain ⟨R, r1, s', es, e3, e4, st, t1', t0', I, e5, e6, e7, e8, e9⟩ := remap_inv Ia (p := p) (r := r) (by rw [Sa.shape]; exact hp) h0 h2 fa (by rw [hra]; exact hr) (fun hz => by rw [hra] at hz; rw [if_pos hz] at room'; rw [na, ef]; omega)
      have hS : setF s p r = (0, s') := by
        unfold setF
        rw [if_neg e1, if_neg e2, if_neg hr, hF]
        dsimp only
        rw [if_neg (by simp), r1, if_neg (by simp), es]
      rw [hS]
      refine ⟨⟨hp, hsh, h0, h2, fun _ => .inr ⟨hf, by omega, by rw [hF]; exact R⟩⟩, ?_, fun q => ?_, fun q hq => ?_, fun g a b i hi => ?_, t1', t0', I, ?_, e6, e7, fun _ => ⟨e8, e9⟩⟩
      · refine ⟨st.shape.trans Sa.shape, st.code.trans Sa.code, st.own.trans Sa.own, st.root.trans Sa.root, st.fr.trans Sa.fr, st.fin.trans Sa.fin, Nat.le_trans Sa.nx st.nx, fun q f e => st.frm q f (Sa.frm q f e), fun a ha => ?_⟩
        rw [st.old a ?_, Sa.old a ha]
        unfold Spc.frames at ha ⊢
        rw [Sa.code, Sa.own]
        rw [List.mem_append] at ha ⊢
        refine ha.imp id fun hm => ?_
        have hfind : (s.shared.find? fun x => x.1 == (p : Int)) = none := by
          unfold frameOf at hf
          cases e : s.shared.find? fun x => x.1 == (p : Int) with
          | none => rfl
          | some x => rw [e] at hf; cases hf
        have : sa.shared = s.shared ++ [((p : Int), s.stk.next)] := by
          have := congrArg (fun x => x.2.shared) hF
          dsimp only at this
          rw [← this]
          unfold frameF
          rw [hf, take_room (by omega)]
          exact putI_new _ _ _ hfind
        rw [this, List.map_append]
        exact List.mem_append_left _ hm
      · rw [rightOf_put e4, hra]
      · have : frameOf s' q = frameOf sa q := by unfold frameOf; rw [e3]
        rw [this, fb q hq]
      · have hb : frameOf s' p = some s.stk.next := st.frm _ _ fa
        have b' : frameOf s' p = some g := b
        rw [hb] at b'
        cases b'
        show s'.u.b _ = 0
        rw [st.old _ (by rw [show (s.stk.next * 4096 + i) / 4096 = s.stk.next by omega]; exact frameOf_mem fa)]
        exact za i hi
      · rw [if_neg hr, hn1]
        show s'.stk.next = _
        rw [e5, na, hra]
        omega
end Go.Proofs.YtdjaeoeejcmhdaaGreatDoor
set_option linter.unusedVariables false
set_option linter.unusedSimpArgs false
namespace Go.Proofs.YtdjaeoeejcmhdaaGreatDoor
open Go.RowKit Go.RR





theorem sFrames_any {w : World} {L : Pl} {s : Spc} (h : SpAt w L s) : Calls Tryz.prog 42 #[.pointer (some ⟨L.pb, 0, none⟩)] w (RetW (.int .i64 s.u.fr) fun w' => w' = w) := by
  have f3 := h.blk.cell' (i := 3) (v := .pointer (some ⟨L.mb, 0, none⟩)) rfl
  have fl := h.blk.lt
  have HF := Lib.hid (frames_any h.mu.mem)
  clear h
  go_enter Tryz.func42, Tryz.ntmps42
  go_wp2_with fail
  refine HF.out.mono ?_
  rintro e w1 ⟨rfl, rfl⟩
  go_wp2_with fail
  go_ret
  exact ⟨rfl, rfl⟩
end Go.Proofs.YtdjaeoeejcmhdaaGreatDoor
set_option linter.unusedVariables false
set_option linter.unusedSimpArgs false
namespace Go.Proofs.YtdjaeoeejcmhdaaGreatDoor
open Go.RowKit Go.RR
end Go.Proofs.YtdjaeoeejcmhdaaGreatDoor
set_option linter.unusedVariables false
set_option linter.unusedSimpArgs false
namespace Go.Proofs.YtdjaeoeejcmhdaaGreatDoor
open Go.RowKit Go.RR

def pgCe (me number : Int) (s : PgS) (rb : Nat) : Array Value := #[.int .i64 me, .int .i64 number, .int .i64 s.right, .bool s.owner, .int .i64 s.prob, .int .u16 s.set, .int .i64 s.want, .int .u16 s.wait, .bool s.held, .int .i64 s.forget, .int .i64 0, .pointer (some ⟨rb, 0, none⟩), .slice none 0 0, .bool false]
/-- A page at a node, nobody in its line. -/
structure PgW (w : World) (S : Nat → Prop) (pb : Nat) (me number : Int) (st : PgS) : Prop where
  s : S pb
  ex : ∃ rb, S rb ∧ Blk w pb (pgCe me number st rb) 128 ∧ Blk w rb ringC 201
theorem PgW.chg {w w' : World} {S S' : Nat → Prop} {pb : Nat} {me number : Int} {s : PgS} (h : PgW w S pb me number s) (c : Chg S' w w') (hs : ∀ k, S k → ¬ S' k) : PgW w' S pb me number s := by
  obtain ⟨rb, h1, h2, h3⟩ := h.ex
  exact ⟨h.s, rb, h1, c.blk h2 (hs _ h.s), c.blk h3 (hs _ h1)⟩
theorem PgW.mono {w : World} {S S' : Nat → Prop} {pb : Nat} {me number : Int} {s : PgS} (h : PgW w S pb me number s) (hs : ∀ k, k < w.heap.size → S k → S' k) : PgW w S' pb me number s := by
  obtain ⟨rb, h1, h2, h3⟩ := h.ex
  exact ⟨hs _ h2.lt h.s, rb, hs _ h3.lt h1, h2, h3⟩
/-- A home: its pages, by number, place, state. -/
structure HmW (w : World) (S : Nat → Prop) (hb spb : Nat) (me n sh : Int) (ps : List (Int × Nat × PgS)) : Prop where
  s : S hb
  ex : ∃ mb, S mb ∧ Blk w hb #[.int .i64 me, .int .i64 n, .pointer (some ⟨spb, 0, none⟩), .int .i64 1, .int .i64 0, .int .i64 sh, .map (some mb)] 68 ∧ MapAt w mb .i64 (ps.map fun p => (p.1, .pointer (some ⟨p.2.1, 0, none⟩))) ∧ Stm w mb
  page : ∀ p ∈ ps, PgW w S p.2.1 me p.1 p.2.2
  nd : (ps.map (·.2.1)).Nodup
  kn : ∀ p ∈ ps, 0 ≤ p.1 ∧ p.1 < sh
theorem HmW.chg {w w' : World} {S S' : Nat → Prop} {hb spb : Nat} {me n sh : Int} {ps : List (Int × Nat × PgS)} (h : HmW w S hb spb me n sh ps) (c : Chg S' w w') (hs : ∀ k, S k → ¬ S' k) : HmW w' S hb spb me n sh ps := by
  obtain ⟨mb, h1, h2, h3, h4⟩ := h.ex
  exact ⟨h.s, ⟨mb, h1, c.blk h2 (hs _ h.s), h3.chg c (hs _ h1), h4.chg c (hs _ h1)⟩, fun p hp => (h.page p hp).chg c hs, h.nd, h.kn⟩
theorem HmW.mono {w : World} {S S' : Nat → Prop} {hb spb : Nat} {me n sh : Int} {ps : List (Int × Nat × PgS)} (h : HmW w S hb spb me n sh ps) (hs : ∀ k, k < w.heap.size → S k → S' k) : HmW w S' hb spb me n sh ps := by
  obtain ⟨mb, h1, h2, h3, h4⟩ := h.ex
  exact ⟨hs _ h2.lt h.s, ⟨mb, hs _ h3.lt h1, h2, h3, h4⟩, fun p hp => (h.page p hp).mono hs, h.nd, h.kn⟩
theorem HmW.chg0 {w w' : World} {S : Nat → Prop} {hb spb : Nat} {me n sh : Int} {ps : List (Int × Nat × PgS)} (h : HmW w S hb spb me n sh ps) (c : Chg NoB w w') : HmW w' S hb spb me n sh ps := h.chg c fun _ _ => id
/-- The page of a number. -/
def hLook (ps : List (Int × Nat × PgS)) (n : Int) : Option (Nat × PgS) := (ps.find? fun p => p.1 == n).map (·.2)
theorem hLook_mem {ps : List (Int × Nat × PgS)} {n : Int} {x : Nat × PgS} (h : hLook ps n = some x) : (n, x) ∈ ps := by
  unfold hLook at h
  rw [Option.map_eq_some_iff] at h
  obtain ⟨p, hp, rfl⟩ := h
  have h1 : p.1 = n := by simpa using List.find?_some hp
  have h2 := List.mem_of_find?_eq_some hp
  rw [← h1]
  exact h2
/-- A page's state is another one now. -/
def hPut (ps : List (Int × Nat × PgS)) (pb : Nat) (s : PgS) : List (Int × Nat × PgS) := ps.map fun p => if p.2.1 = pb then (p.1, p.2.1, s) else p
theorem hPut_keys (ps : List (Int × Nat × PgS)) (pb : Nat) (s : PgS) : (hPut ps pb s).map (fun p => (p.1, p.2.1)) = ps.map (fun p => (p.1, p.2.1)) := by
  unfold hPut
  rw [List.map_map]
  apply List.map_congr_left
  intro p _
  dsimp only [Function.comp]
  split <;> rfl
theorem nodup_inj {α β : Type} {f : α → β} : ∀ {l : List α}, (l.map f).Nodup → ∀ {x y : α}, x ∈ l → y ∈ l → f x = f y → x = y
  | [], _, x, _, hx, _, _ => by cases hx
  | a :: l, h, x, y, hx, hy, e => by
    rw [List.map_cons, List.nodup_cons] at h
    rcases List.mem_cons.1 hx with ex | hx2 <;> rcases List.mem_cons.1 hy with ey | hy2
    · rw [ex, ey]
    · exact (h.1 (List.mem_map.2 ⟨y, hy2, by rw [← e, ex]⟩)).elim
    · exact (h.1 (List.mem_map.2 ⟨x, hx2, by rw [e, ey]⟩)).elim
    · exact nodup_inj h.2 hx2 hy2 e
theorem HmW.put {w w' : World} {S : Nat → Prop} {hb spb : Nat} {me n sh : Int} {ps : List (Int × Nat × PgS)} (h : HmW w S hb spb me n sh ps) {num : Int} {pb : Nat} {s s' : PgS} (hp : (num, pb, s) ∈ ps) (hP : PgW w' S pb me num s') (c : Chg (fun k => k = pb) w w') (hne : hb ≠ pb) (hmb : ∀ mb, MapAt w mb .i64 (ps.map fun p => (p.1, .pointer (some ⟨p.2.1, 0, none⟩))) → mb ≠ pb) (hrb : ∀ rb, Blk w rb ringC 201 → rb ≠ pb) :
    HmW w' S hb spb me n sh (hPut ps pb s') := by
  obtain ⟨mb, h1, h2, h3, h4⟩ := h.ex
  have hk := hPut_keys ps pb s'
  have hk1 : (hPut ps pb s').map (fun p => (p.1, Value.pointer (some ⟨p.2.1, 0, none⟩))) = ps.map (fun p => (p.1, Value.pointer (some ⟨p.2.1, 0, none⟩))) := by
    have := congrArg (List.map fun q : Int × Nat => (q.1, Value.pointer (some ⟨q.2, 0, none⟩))) hk
    rw [List.map_map, List.map_map] at this
    exact this
  have hk2 : (hPut ps pb s').map (·.2.1) = ps.map (·.2.1) := by
    have := congrArg (List.map fun q : Int × Nat => q.2) hk
    rw [List.map_map, List.map_map] at this
    exact this
  refine ⟨h.s, ⟨mb, h1, c.blk h2 hne, ?_, h4.chg c (hmb mb h3)⟩, fun p hp' => ?_, by rw [hk2]; exact h.nd, fun p hp' => ?_⟩
  · rw [hk1]
    exact h3.chg c (hmb mb h3)
  · unfold hPut at hp'
    obtain ⟨q, hq, rfl⟩ := List.mem_map.1 hp'
    by_cases e : q.2.1 = pb
    · rw [if_pos e]
      have : q = (num, pb, s) := nodup_inj h.nd hq hp e
      subst this
      exact hP
    · rw [if_neg e]
      obtain ⟨rb, r1, r2, r3⟩ := (h.page q hq).ex
      exact ⟨(h.page q hq).s, rb, r1, c.blk r2 e, c.blk r3 (hrb rb r3)⟩
  · unfold hPut at hp'
    obtain ⟨q, hq, rfl⟩ := List.mem_map.1 hp'
    have := h.kn q hq
    split <;> exact this
end Go.Proofs.YtdjaeoeejcmhdaaGreatDoor
set_option linter.unusedVariables false
namespace Go.RR
open Go.RowKit
section
variable {P : Program} {ops : Array Oper} {md : Region.Mode} {S : World → Prop} {Q : Exit → Act → World → Prop}
end
end Go.RR
set_option linter.unusedVariables false
set_option linter.unusedSimpArgs false
namespace Go.Proofs.YtdjaeoeejcmhdaaGreatDoor
open Go.RowKit Go.RR
def stCe (s : PgS) : Array Value := #[.int .i64 s.right, .bool s.owner, .int .i64 s.prob, .int .u16 s.set, .int .i64 s.want, .int .u16 s.wait, .bool s.held, .int .i64 s.forget, .int .i64 0]
end Go.Proofs.YtdjaeoeejcmhdaaGreatDoor
