/- Pages that talk: a message, whatever the page is, if it does what it is for. No condition. Spaces of homes: two shared pages, their rights and bytes. Plain, no program. No condition. Bytes of a page without the noughts at their end. No condition. -/
import Derived.Test.YtdjaeoeejcmhdaaGreatDoorHn
import Derived.Test.YtdjaeoeejcmhdaaGreatDoorHh
import Derived.Test.YtdjaeoeejcmhdaaGreatDoorHb
import Derived.Test.YtdjaeoeejcmhdaaGreatDoorGy
import Derived.Test.YtdjaeoeejcmhdaaGreatDoorHc
import Derived.Test.YtdjaeoeejcmhdaaGreatDoorProg
import Derived.Test.YtdjaeoeejcmhdaaGreatDoorFa
import Derived.Test.YtdjaeoeejcmhdaaGreatDoorGb
set_option linter.unusedVariables false
set_option linter.unusedSimpArgs false
namespace Go.Proofs.YtdjaeoeejcmhdaaGreatDoor
open Go.RowKit Go.RR
/-- What a message finds at its page. -/
def Finds (st : PgS) (m : Mg) : Prop := ((m.kind = 1 ∨ m.kind = 2) ∧ st.busy = false) ∨ (m.kind = 3 ∧ st.want = 1 ∧ st.owner = false) ∨ (m.kind = 4 ∧ st.want = 2 ∧ st.owner = false) ∨ (m.kind = 5 ∧ st.owner = false ∧ st.want = 0 ∧ st.held = false) ∨ (m.kind = 6 ∧ st.want = 2 ∧ st.owner = true ∧ nhasF st.wait m.node = true)
theorem take_any {w : World} {S : Nat → Prop} {pb me : Nat} {number : Int} {st : PgS} (h : PgT w S pb me number st false []) (hb : ∀ k, S k → k < w.heap.size) (m : Mg) (hme : me < 16) (hn : 0 ≤ m.node ∧ m.node < 16) (hh : 0 ≤ m.hops ∧ m.hops ≤ 255) (hset : m.set < 65536) (hs : st.set < 65536) (hwt : st.wait < 65536) (L : Tz24 w) (hd : ¬ S 0) (hs5 : m.kind = 4 → ndropF m.set me < 32) (hk : Finds st m) (dp : Option Addr) (dn dc : Nat) :
    Calls Tryz.prog 30 #[.pointer (some ⟨pb, 0, none⟩), .agg #[.int .i64 m.kind, .int .i64 number, .int .i64 m.node, .int .i64 m.hops, .int .u16 m.set, .slice dp dn dc]] w (RetV (TellQ w S pb me number (takeF me st m).s (takeF me st m).lay (takeF me st m).l)) := by
  obtain ⟨kind, node, hops, sm⟩ := m
  obtain ⟨node, rfl⟩ : ∃ n : Nat, node = n := ⟨node.toNat, by have := hn.1; dsimp only at this; omega⟩
  have hn16 : node < 16 := by have := hn.2; dsimp only at this; omega
  have bd : ∀ w', Chg NoB w w' → ∀ k, S k → k < w'.heap.size := fun w' c k hk => Nat.lt_of_lt_of_le (hb k hk) c.size
  rcases hk with ⟨hk, hz⟩ | ⟨hk, hw, ho⟩ | ⟨hk, hw, ho⟩ | ⟨hk, ho, hw, hh'⟩ | ⟨hk, hw, ho, hhas⟩
  · have e : takeF me st ⟨kind, node, hops, sm⟩ = ⟨(serveF me st ⟨kind, node, hops, sm⟩).1, false, (serveF me st ⟨kind, node, hops, sm⟩).2⟩ := if_pos hk
    rw [e]
    cases ho : st.owner
    · have e2 : serveF me st ⟨kind, node, hops, sm⟩ = ({ st with prob := (node : Int) }, [⟨st.prob, kind, node, min hops 254 + 1, sm, false⟩]) := if_pos ho
      rw [e2]
      rcases hk with hk | hk <;> dsimp only at hk <;> subst hk
      · exact take1 h hb node hops sm dp dn dc fun w' c => ask_w (h.chg0 c) hz 1 number node hops sm dp dn dc fun w'' c' => serve_on (h.chg0 (c.step c')) (bd _ (c.step c')) (by simp) ho 1 number node hops hh.1 hh.2 sm none 0 0
      · exact take2 h hb node hops sm dp dn dc fun w' c => ask_w (h.chg0 c) hz 2 number node hops sm dp dn dc fun w'' c' => serve_on (h.chg0 (c.step c')) (bd _ (c.step c')) (by simp) ho 2 number node hops hh.1 hh.2 sm none 0 0
    · rcases hk with hk | hk <;> dsimp only at hk <;> subst hk
      · have e2 : serveF me st ⟨1, node, hops, sm⟩ = ({ st with set := naddF st.set node, right := min st.right 1 }, [⟨node, 3, me, 0, 0, true⟩]) := by
          unfold serveF
          rw [if_neg (by rw [ho]; simp), if_pos rfl]
        rw [e2]
        exact take1 h hb node hops sm dp dn dc fun w' c => ask_w (h.chg0 c) hz 1 number node hops sm dp dn dc fun w'' c' => serve_copy (h.chg0 (c.step c')) (bd _ (c.step c')) (by simp) ho hs node hn16 number hops sm none 0 0
      · have e2 : serveF me st ⟨2, node, hops, sm⟩ = ({ st with owner := false, set := 0, right := 0, prob := (node : Int) }, [⟨node, 4, me, 0, ndropF st.set node, true⟩]) := by
          unfold serveF
          rw [if_neg (by rw [ho]; simp), if_neg (by simp)]
        rw [e2]
        exact take2 h hb node hops sm dp dn dc fun w' c => ask_w (h.chg0 c) hz 2 number node hops sm dp dn dc fun w'' c' => serve_grant (h.chg0 (c.step c')) (bd _ (c.step c')) (by simp) ho hs node hn16 number hops sm none 0 0
  · dsimp only at hk
    subst hk
    have e : takeF me st ⟨3, node, hops, sm⟩ = ⟨holdF { st with prob := (node : Int) } 1, true, []⟩ := by
      unfold takeF
      rw [if_neg (by simp), if_pos rfl, if_pos ⟨hw, ho⟩]
    rw [e]
    exact take3 h hb node hops sm dp dn dc fun w' c => copied_w (h.chg0 c) (bd _ c) hw ho 3 number node hops sm dp dn dc
  · dsimp only at hk
    subst hk
    obtain ⟨t, ht⟩ : ∃ t, ndropF sm me = t := ⟨_, rfl⟩
    have e : takeF me st ⟨4, node, hops, sm⟩ = ⟨(gatherF me { st with owner := true, prob := (me : Int), set := t }).1, true, (gatherF me { st with owner := true, prob := (me : Int), set := t }).2⟩ := by
      unfold takeF
      rw [if_neg (by simp), if_neg (by simp), if_pos rfl, if_pos ⟨hw, ho⟩, ht]
    rw [e]
    by_cases hz : t = 0
    · have e2 : gatherF me { st with owner := true, prob := (me : Int), set := t } = (holdF { st with owner := true, prob := (me : Int), set := t } 2, []) := if_pos hz
      rw [e2]
      rw [← ht] at hz ⊢
      exact take4 h hb node hops sm dp dn dc fun w' c => granted_zero (h.chg0 c) (bd _ c) hme hw ho 4 number node hops sm hset dp dn dc hz
    · have e2 : gatherF me { st with owner := true, prob := (me : Int), set := t } = ({ st with owner := true, prob := (me : Int), set := t, want := 2, wait := t }, (nlistF t).map fun n => ⟨n, 5, me, 0, 0, false⟩) := if_neg hz
      rw [e2]
      have h32 := hs5 rfl
      dsimp only at h32
      rw [← ht] at hz ⊢
      exact take4 h hb node hops sm dp dn dc fun w' c => granted_list (h.chg0 c) (bd _ c) hme hw ho 4 number node hops sm hset dp dn dc (L.chg0 c) hd (by simp) hz h32
  · dsimp only at hk
    subst hk
    have e : takeF me st ⟨5, node, hops, sm⟩ = ⟨(dropPF me st node).1, false, (dropPF me st node).2⟩ := by
      unfold takeF
      rw [if_neg (by simp), if_neg (by simp), if_neg (by simp), if_pos rfl, if_neg (by rw [ho]; simp), if_neg (by rw [hw, hh']; simp)]
    rw [e]
    exact take5 h hb node hops sm dp dn dc fun w' c => forget_w (h.chg0 c) (bd _ c) (by simp) ho hw hh' 5 number node hops sm dp dn dc
  · dsimp only at hk hhas
    subst hk
    have e : takeF me st ⟨6, node, hops, sm⟩ = ⟨if ndropF st.wait node = 0 then holdF { st with wait := 0, set := ndropF st.set node } 2 else { st with wait := ndropF st.wait node, set := ndropF st.set node }, false, []⟩ := by
      unfold takeF
      rw [if_neg (by simp), if_neg (by simp), if_neg (by simp), if_neg (by simp), if_pos rfl, if_neg (by rw [hw, ho, hhas]; simp)]
      dsimp only
      split <;> rfl
    rw [e]
    exact take6 h hb node hops sm dp dn dc fun w' c => forgot_w (h.chg0 c) (bd _ c) hw ho node hn16 hs hwt hhas 6 number hops sm dp dn dc
end Go.Proofs.YtdjaeoeejcmhdaaGreatDoor
set_option linter.unusedVariables false
set_option linter.unusedSimpArgs false
namespace Go.Proofs.YtdjaeoeejcmhdaaGreatDoor
open Go.RowKit Go.RR
theorem va24 {p o : Nat} (hp : p < 65536) (ho : o < 4096) : vpn (1073741824 + p * 4096 + o) = 262144 + p ∧ canonB (1073741824 + p * 4096 + o) = true ∧ (1073741824 + p * 4096 + o) % 4096 = o := by
  refine ⟨by unfold vpn; omega, ?_, by omega⟩
  unfold canonB
  rw [decide_eq_true (by omega)]
  rfl
theorem ppn24 (r : Int) (f : Nat) : (ent r f).ppn = f := by unfold ent; split <;> rfl
theorem chk24w (r : Int) (f : Nat) : checkB (ent r f) 2 ⟨true, false, false⟩ = decide (r = 2) := by
  unfold ent
  by_cases h : r = 2
  · rw [if_pos h, decide_eq_true h]; rfl
  · rw [if_neg h, decide_eq_false h]; rfl
theorem chk24r (r : Int) (f : Nat) : checkB (ent r f) 1 ⟨true, false, false⟩ = true := by
  unfold ent
  split <;> rfl
theorem al24 {p o : Nat} (h8 : o % 8 = 0) : alignedB (1073741824 + p * 4096 + o) 8 = true := by
  unfold alignedB
  rw [show sizeB 8 = true from rfl, decide_eq_true (by show (1073741824 + p * 4096 + o) % 8 = 0; omega)]
  rfl
theorem store24 {s : Spc} {t1 t0 : Nat → Option Nat} (h : SpInv s t1 t0) {p f o : Nat} (hp : p < 65536) (hf : frameOf s p = some f) (hr : rightOf s p = 2) (ho : o < 4096) (h8 : o % 8 = 0) (v : Nat) (pick : Int) :
    ∃ b, Coh b s.lf ∧ storeF s.u (1073741824 + p * 4096 + o) 8 v pick = (-1, { s.u with tlb := b, b := putW s.u.b (f * 4096 + o) 8 v }) := by
  obtain ⟨e1, e2, e3⟩ := va24 hp ho
  have hl := lf_at h.cl h.ol hf
  rw [hr, if_neg (by decide), ← e1] at hl
  obtain ⟨b, hb, e⟩ := (store_uo h.un e2 (al24 h8) v pick).2 _ hl
  refine ⟨b, hb, ?_⟩
  have hck : checkB (ent 2 f) 2 s.u.mode = true := by rw [h.mode]; exact chk24w _ _
  rw [e, e3, ppn24, hck, if_pos rfl]
  rfl
theorem load24 {s : Spc} {t1 t0 : Nat → Option Nat} (h : SpInv s t1 t0) {p f o : Nat} (hp : p < 65536) (hf : frameOf s p = some f) (hr : rightOf s p ≠ 0) (ho : o < 4096) (h8 : o % 8 = 0) (pick : Int) :
    ∃ b, Coh b s.lf ∧ readF s.u (1073741824 + p * 4096 + o) 8 1 pick = ((getW s.u.b (f * 4096 + o) 8, -1), { s.u with tlb := b }) := by
  obtain ⟨e1, e2, e3⟩ := va24 hp ho
  have hl := lf_at h.cl h.ol hf
  rw [if_neg hr, ← e1] at hl
  obtain ⟨b, hb, e⟩ := (read_uo h.un e2 (al24 h8) 1 pick (by decide)).2 _ hl
  refine ⟨b, hb, ?_⟩
  have hck : checkB (ent (rightOf s p) f) 1 s.u.mode = true := by rw [h.mode]; exact chk24r _ _
  rw [e, e3, ppn24, hck, if_pos rfl]
  rfl
theorem SpInv.byt {s : Spc} {t1 t0 : Nat → Option Nat} (h : SpInv s t1 t0) {b : By} (hb : ∀ a, IsTab s.root t1 t0 (a / 4096) → b a = s.u.b a) : SpInv { s with u := { s.u with b := b } } t1 t0 := by
  have hi := h.inv
  exact ⟨⟨hi.tab.other hb, hi.nx, hi.fin, hi.lo, hi.i1, hi.i0, hi.d, hi.r1, hi.r0⟩, h.coh, h.sat, h.mode, h.fr, h.nd, h.ft, h.cl, h.ol, h.sh, h.rf, h.rp⟩
theorem SpInv.tl {s : Spc} {t1 t0 : Nat → Option Nat} (h : SpInv s t1 t0) {tl : Tlb} (hb : Coh tl s.lf) : SpInv { s with u := { s.u with tlb := tl } } t1 t0 :=
  ⟨h.inv, hb, h.sat, h.mode, h.fr, h.nd, h.ft, h.cl, h.ol, h.sh, h.rf, h.rp⟩
theorem data_some {s : Spc} {p : Int} {f : Nat} (h : frameOf s p = some f) (a : Nat) : dataF s p a = s.u.b (4096 * f + a) := by unfold dataF; rw [h]; rfl
theorem data_none {s : Spc} {p : Int} (h : frameOf s p = none) (a : Nat) : dataF s p a = 0 := by unfold dataF; rw [h]
theorem frame_two {s : Spc} {t1 t0 : Nat → Option Nat} (h : SpInv s t1 t0) {p q : Int} {f : Nat} (hp : frameOf s p = some f) (hq : frameOf s q = some f) : p = q := by
  have hn := h.nd
  unfold Spc.frames at hn
  rw [List.nodup_append] at hn
  have hn := hn.2.1
  unfold frameOf at hp hq
  rw [Option.map_eq_some_iff] at hp hq
  obtain ⟨x, hx, hx2⟩ := hp
  obtain ⟨y, hy, hy2⟩ := hq
  have h1 := List.mem_of_find?_eq_some hx
  have h2 := List.mem_of_find?_eq_some hy
  have k1 := List.find?_some hx
  have k2 := List.find?_some hy
  simp only [beq_iff_eq] at k1 k2
  obtain ⟨i, hi, rfl⟩ := List.getElem_of_mem h1
  obtain ⟨j, hj, rfl⟩ := List.getElem_of_mem h2
  have : i = j := (List.getElem_inj (h₀ := by simpa using hi) (h₁ := by simpa using hj) hn).1 (by simp [hx2, hy2])
  subst this
  rw [← k1, ← k2]
/-- A space of a home: what rights there are, which bytes. -/
structure SV (s : Spc) (rt : Nat → Int) (ct : Nat → By) : Prop where
  inv : ∃ t1 t0, SpInv s t1 t0 ∧ s.stk.next + noneN (frameOf s (0 : Nat)) + noneN (frameOf s (1 : Nat)) + noneN (t1 1) + noneN (t0 512) ≤ s.stk.fin
  shape : s.shape.shared = 2
  right : ∀ p : Nat, p < 2 → rightOf s p = rt p
  rng : ∀ p : Nat, p < 2 → 0 ≤ rt p ∧ rt p ≤ 2
  ct : ∀ p : Nat, p < 2 → ∀ i, i < 4096 → dataF s p i = ct p i
theorem noneN_some {α : Type} {o : Option α} (h : o.isSome = true) : noneN o = 0 := by
  unfold noneN
  cases o
  · cases h
  · rfl
theorem SV.frame_lt {s : Spc} {t1 t0 : Nat → Option Nat} (h : SpInv s t1 t0) {p : Int} {f : Nat} (hf : frameOf s p = some f) : f < s.u.fr := by
  have a := (h.ft f (frameOf_mem hf)).1
  have b := h.inv.nx
  have c := h.inv.fin
  have b : s.stk.next ≤ s.stk.fin := b
  have c : s.stk.fin ≤ s.u.fr := c
  omega
theorem SV.set {s : Spc} {rt : Nat → Int} {ct : Nat → By} (h : SV s rt ct) {p : Nat} (hp : p < 2) {r : Int} (h0 : 0 ≤ r) (h2 : r ≤ 2) : SetOk s p r ∧ SV (setF s p r).2 (updG rt p r) ct := by
  obtain ⟨t1, t0, I, room⟩ := h.inv
  have hsh := h.shape
  have h512 : 512 + p / 512 = 512 := by omega
  have hN : noneN (frameOf s (p : Int)) ≤ noneN (frameOf s ((0 : Nat) : Int)) + noneN (frameOf s ((1 : Nat) : Int)) := by
    rcases (by omega : p = 0 ∨ p = 1) with rfl | rfl <;> omega
  obtain ⟨SO, St, hr, hfo, hz, t1', t0', I', hnx, e1, e0, hT⟩ := set_inv I (p := p) (r := r) (by rw [hsh]; omega) h0 h2 (fun hne => by
    rw [h512]
    split <;> omega)
  rw [h512] at hnx e0 hT
  refine ⟨SO, ?_, St.shape ▸ hsh, fun q hq => ?_, fun q hq => ?_, fun q hq i hi => ?_⟩
  · by_cases hrr : r = rightOf s p
    · have e : (setF s p r).2 = s := by
        unfold setF
        rw [if_neg (by rw [hsh]; omega), if_neg (by omega), if_pos hrr]
      rw [e]
      exact ⟨t1, t0, I, room⟩
    · refine ⟨t1', t0', I', ?_⟩
      obtain ⟨q1, q2⟩ := hT hrr
      rw [noneN_some q1, noneN_some q2, hnx, if_neg hrr, St.fin]
      have hp' : (frameOf (setF s p r).2 (p : Int)).isSome = true := by
        by_cases hr0 : r = 0
        · have hs := I.rf p (by omega)
          obtain ⟨f, hf⟩ := Option.isSome_iff_exists.1 hs
          rw [St.frm _ _ hf]; rfl
        · exact I'.rf p (by rw [hr, if_pos rfl]; exact hr0)
      have hp0 := noneN_some hp'
      rcases (by omega : p = 0 ∨ p = 1) with rfl | rfl
      · have e := hfo ((1 : Nat) : Int) (by simp)
        rw [e]
        split <;> omega
      · have e := hfo ((0 : Nat) : Int) (by simp)
        rw [e]
        split <;> omega
  · rw [hr]
    unfold updG
    by_cases hqp : q = p
    · rw [if_pos (by rw [hqp]), if_pos hqp]
    · rw [if_neg (by omega), if_neg hqp]; exact h.right q hq
  · unfold updG
    split
    · exact ⟨h0, h2⟩
    · exact h.rng q hq
  · rw [← h.ct q hq i hi]
    cases hf : frameOf s (q : Int) with
    | some f =>
      rw [data_some hf, data_some (St.frm _ _ hf)]
      exact St.old _ (by rw [show (4096 * f + i) / 4096 = f by omega]; exact frameOf_mem hf)
    | none =>
      rw [data_none hf]
      by_cases hqp : q = p
      · subst hqp
        cases hf' : frameOf (setF s q r).2 (q : Int) with
        | none => exact data_none hf' i
        | some f => rw [data_some hf', Nat.mul_comm]; exact hz f hf hf' i hi
      · rw [data_none ((hfo q (by omega)).trans hf)]
/-- Bytes are laid into a page. -/
def layS (s : Spc) (p : Int) (d : By) : Spc := { (frameF s p).2 with u := { (frameF s p).2.u with b := layPg (frameF s p).2.u.b ((frameOf (frameF s p).2 p).getD 0) d } }
theorem frameF_some {s : Spc} {p : Int} {f : Nat} (h : frameOf s p = some f) : frameF s p = ((f, 0), s) := by unfold frameF; rw [h]
theorem SV.lay1 {s : Spc} {rt : Nat → Int} {ct : Nat → By} (h : SV s rt ct) {p f : Nat} (hp : p < 2) (hf : frameOf s p = some f) (d : By) : SV { s with u := { s.u with b := layPg s.u.b f d } } rt (updG ct p d) := by
  obtain ⟨t1, t0, I, room⟩ := h.inv
  have hn := (I.ft f (frameOf_mem hf)).2
  have hb : ∀ a, a / 4096 ≠ f → layPg s.u.b f d a = s.u.b a := fun a ha => by unfold layPg; rw [if_neg ha]
  refine ⟨⟨t1, t0, I.byt fun a ha => hb a fun e => hn (by rw [← e]; exact ha), room⟩, h.shape, h.right, h.rng, fun q hq i hi => ?_⟩
  have hfr : ∀ q : Int, frameOf { s with u := { s.u with b := layPg s.u.b f d } } q = frameOf s q := fun q => rfl
  by_cases hqp : q = p
  · subst hqp
    rw [data_some (hfr _ ▸ hf), updG_at]
    show layPg s.u.b f d (4096 * f + i) = d i
    unfold layPg
    rw [if_pos (by omega), show (4096 * f + i) % 4096 = i by omega]
  · rw [updG_ne _ _ hqp, ← h.ct q hq i hi]
    cases hf2 : frameOf s (q : Int) with
    | none => rw [data_none hf2, data_none (hfr _ ▸ hf2)]
    | some g =>
      rw [data_some hf2, data_some (hfr _ ▸ hf2)]
      refine hb _ fun e => hqp ?_
      have : g = f := by omega
      subst this
      exact Int.ofNat.inj (frame_two I hf2 hf)
theorem SV.lay {s : Spc} {rt : Nat → Int} {ct : Nat → By} (h : SV s rt ct) {p : Nat} (hp : p < 2) (d : By) :
    (frameOf s p = none → s.stk.next < s.stk.fin) ∧ (∃ f, frameOf (frameF s p).2 p = some f ∧ f < (frameF s p).2.u.fr ∧ (frameF s p).1 = (f, 0)) ∧ SV (layS s p d) rt (updG ct p d) := by
  obtain ⟨t1, t0, I, room⟩ := h.inv
  cases hf : frameOf s (p : Int) with
  | some f =>
    have e := frameF_some hf
    refine ⟨fun e => (by cases e), ⟨f, by rw [e]; exact hf, by rw [e]; exact SV.frame_lt I hf, by rw [e]⟩, ?_⟩
    unfold layS
    rw [e]
    dsimp only
    rw [hf]
    exact h.lay1 hp hf d
  | none =>
    have hlt : s.stk.next < s.stk.fin := by
      have : noneN (frameOf s (p : Int)) = 1 := by rw [hf]; rfl
      rcases (by omega : p = 0 ∨ p = 1) with rfl | rfl <;> omega
    obtain ⟨s', e, I', St, hnx, hf', hfo, hri, hz⟩ := frame_inv I hf hlt
    have h' : SV s' rt ct := by
      refine ⟨⟨t1, t0, I', ?_⟩, by rw [St.shape]; exact h.shape, fun q hq => ?_, h.rng, fun q hq i hi => ?_⟩
      · rw [hnx, St.fin]
        have n1 : noneN (frameOf s (p : Int)) = 1 := by rw [hf]; rfl
        have n2 : noneN (frameOf s' (p : Int)) = 0 := by rw [hf']; rfl
        rcases (by omega : p = 0 ∨ p = 1) with rfl | rfl
        · rw [hfo ((1 : Nat) : Int) (by simp)]; omega
        · rw [hfo ((0 : Nat) : Int) (by simp)]; omega
      · rw [← h.right q hq]; unfold rightOf; rw [hri]
      · rw [← h.ct q hq i hi]
        by_cases hqp : q = p
        · subst hqp
          rw [data_none hf, data_some hf', Nat.mul_comm]
          exact hz i hi
        · have := hfo q (by omega)
          cases hf2 : frameOf s (q : Int) with
          | none => rw [data_none hf2, data_none (this.trans hf2)]
          | some g => rw [data_some hf2, data_some (this.trans hf2)]; exact St.old _ (by rw [show (4096 * g + i) / 4096 = g by omega]; exact frameOf_mem hf2)
    refine ⟨fun _ => hlt, ⟨_, by rw [e]; exact hf', by rw [e]; exact SV.frame_lt I' hf', by rw [e]⟩, ?_⟩
    unfold layS
    rw [e]
    dsimp only
    rw [hf']
    exact h'.lay1 hp hf' d
theorem SV.rframe {s : Spc} {rt : Nat → Int} {ct : Nat → By} (h : SV s rt ct) {p : Nat} (hp : p < 2) (hr : rt p ≠ 0) : ∃ f, frameOf s p = some f := by
  obtain ⟨t1, t0, I, room⟩ := h.inv
  exact Option.isSome_iff_exists.1 (I.rf p (by rw [h.right p hp]; exact hr))
theorem SV.store {s : Spc} {rt : Nat → Int} {ct : Nat → By} (h : SV s rt ct) {p o : Nat} (hp : p < 2) (ho : o < 4096) (h8 : o % 8 = 0) (hr : rt p = 2) (v : Nat) :
    ∃ u', storeF s.u (1073741824 + p * 4096 + o) 8 v 0 = (-1, u') ∧ SV { s with u := u' } rt (updG ct p (putW (ct p) o 8 v)) := by
  obtain ⟨f, hf⟩ := h.rframe hp (by rw [hr]; decide)
  obtain ⟨t1, t0, I, room⟩ := h.inv
  obtain ⟨b, hb, e⟩ := store24 I (by omega) hf ((h.right p hp).trans hr) ho h8 v 0
  refine ⟨_, e, ?_⟩
  have hn := (I.ft f (frameOf_mem hf)).2
  have hbb : ∀ a, a / 4096 ≠ f → putW s.u.b (f * 4096 + o) 8 v a = s.u.b a := fun a ha => putW_out (by omega)
  refine ⟨⟨t1, t0, (I.tl hb).byt fun a ha => hbb a fun e => hn (by rw [← e]; exact ha), room⟩, h.shape, h.right, h.rng, fun q hq i hi => ?_⟩
  have hfr : ∀ q : Int, frameOf { s with u := { s.u with tlb := b, b := putW s.u.b (f * 4096 + o) 8 v } } q = frameOf s q := fun q => rfl
  by_cases hqp : q = p
  · subst hqp
    rw [data_some (hfr _ ▸ hf), updG_at]
    have := h.ct q hq i hi
    rw [data_some hf] at this
    show putW s.u.b (f * 4096 + o) 8 v (4096 * f + i) = putW (ct q) o 8 v i
    unfold putW
    by_cases hc : o ≤ i ∧ i < o + 8
    · rw [if_pos hc, if_pos (by omega), show 4096 * f + i - (f * 4096 + o) = i - o by omega]
    · rw [if_neg hc, if_neg (by omega)]; exact this
  · rw [updG_ne _ _ hqp, ← h.ct q hq i hi]
    cases hf2 : frameOf s (q : Int) with
    | none => rw [data_none hf2, data_none (hfr _ ▸ hf2)]
    | some g =>
      rw [data_some hf2, data_some (hfr _ ▸ hf2)]
      refine hbb _ fun e => hqp ?_
      have : g = f := by omega
      subst this
      exact Int.ofNat.inj (frame_two I hf2 hf)
theorem SV.load {s : Spc} {rt : Nat → Int} {ct : Nat → By} (h : SV s rt ct) {p o : Nat} (hp : p < 2) (ho : o < 4096) (h8 : o % 8 = 0) (hr : 1 ≤ rt p) :
    ∃ u', readF s.u (1073741824 + p * 4096 + o) 8 1 0 = ((getW (ct p) o 8, -1), u') ∧ SV { s with u := u' } rt ct := by
  obtain ⟨f, hf⟩ := h.rframe hp (by omega)
  obtain ⟨t1, t0, I, room⟩ := h.inv
  obtain ⟨b, hb, e⟩ := load24 I (by omega) hf (by rw [h.right p hp]; omega) ho h8 0
  have eg : getW s.u.b (f * 4096 + o) 8 = getW (ct p) o 8 := by
    rw [Nat.mul_comm, ← getW_pg]
    refine getW_congr 8 o fun i h1 h2 => ?_
    have := h.ct p hp i (by omega)
    rw [data_some hf] at this
    exact this
  rw [eg] at e
  exact ⟨_, e, ⟨t1, t0, I.tl hb, room⟩, h.shape, h.right, h.rng, h.ct⟩
theorem SV.start : SV (newS ⟨1, 0, 2⟩ 8 4 2) (fun _ => 0) (fun _ _ => 0) := by
  obtain ⟨-, -, t1, t0, I, hnx, hfin, hno, -, -⟩ := new_inv ⟨1, 0, 2⟩ 8 4 2 (by rfl) (by decide) (by decide)
  have hN := hno 1 (by decide)
  have hM := hno 512 (by decide)
  refine ⟨⟨t1, t0, I, ?_⟩, rfl, fun p hp => rfl, fun p hp => ⟨by decide, by decide⟩, fun p hp i hi => data_none rfl i⟩
  rw [hnx, hfin, hN.1, hM.2]
  decide
end Go.Proofs.YtdjaeoeejcmhdaaGreatDoor
set_option linter.unusedVariables false
set_option linter.unusedSimpArgs false
namespace Go.Proofs.YtdjaeoeejcmhdaaGreatDoor
open Go.RowKit Go.RR
/-- How many bytes are left. -/
def trimN (d : By) : Nat → Nat
  | 0 => 0
  | n + 1 => if d n = 0 then trimN d n else n + 1
theorem trimN_le (d : By) : ∀ n, trimN d n ≤ n
  | 0 => Nat.le_refl _
  | n + 1 => by
    unfold trimN
    split
    · exact Nat.le_succ_of_le (trimN_le d n)
    · exact Nat.le_refl _
theorem trimN_zero (d : By) : ∀ n i, trimN d n ≤ i → i < n → d i = 0
  | 0, i, _, h => absurd h (Nat.not_lt_zero i)
  | n + 1, i, h1, h2 => by
    unfold trimN at h1
    split at h1
    · rename_i hz
      by_cases hi : i = n
      · rw [hi]; exact hz
      · exact trimN_zero d n i h1 (by omega)
    · omega
theorem trimN_last (d : By) : ∀ n, 0 < trimN d n → d (trimN d n - 1) ≠ 0
  | 0, h => absurd h (Nat.lt_irrefl 0)
  | n + 1, h => by
    unfold trimN at h ⊢
    split
    · rename_i hz; rw [if_pos hz] at h; exact trimN_last d n h
    · rename_i hz; simpa using hz
set_option maxHeartbeats 1000000 in
set_option maxRecDepth 100000 in
theorem trimByte_any {w : World} {S : Nat → Prop} {p : Option Addr} {n c : Nat} {d : By} (hs : Sl w S 1 (.slice p n c) n (bcells d n)) (hd : ∀ i, d i < 256) (hn : n ≤ 4096) :
    Calls Tryz.prog 125 #[.slice p n c, .int .u8 0] w (RetW (.slice p (trimN d n) c) fun w' => w' = w) := by
  obtain ⟨-, p', c', hv, hnc, hc⟩ := hs
  cases hv
  by_cases h0 : n = 0
  · subst h0
    show Calls Tryz.prog 125 #[.slice p 0 c, .int .u8 0] w (RetW (.slice p 0 c) fun w' => w' = w)
    go_enter Tryz.func125, Tryz.ntmps125
    go_wp2_with fail
    go_loopg [0] 0 (fun k sv wr => sv = .slice p 0 c ∧ wr = w)
    case atStart => exact ⟨rfl, rfl⟩
    case round =>
      obtain ⟨rfl, hwr⟩ := hrel
      rename World => wr
      subst hwr
      go_wp2_with fail
      go_ret
      exact ⟨rfl, rfl⟩
  · obtain ⟨g, off, rfl, -, hgl, hcell⟩ := hc (by omega)
    have HCl : Hid (∀ i, i < n → w.cell? ⟨g, off + i, none⟩ = some (.int .u8 (d i))) := Lib.hid fun i hi => hcell i _ (bcells_get hi)
    have HD := Lib.hid (And.intro hd (And.intro hn hnc))
    clear hc hcell hd hn hnc h0
    obtain ⟨N, hN⟩ : ∃ N, trimN d n = N := ⟨_, rfl⟩
    rw [hN]
    have HN := Lib.hid hN
    clear hN
    go_enter Tryz.func125, Tryz.ntmps125
    go_wp2_with fail
    go_loopg [0] n (fun k sv wr => k ≤ n ∧ trimN d k = N ∧ sv = .slice (some ⟨g, off, none⟩) k c ∧ wr = w)
    case atStart => exact ⟨Nat.le_refl _, HN.out, rfl, rfl⟩
    case round =>
      rename Nat => k
      obtain ⟨hk, ht, rfl, hwr⟩ := hrel
      rename World => wr
      subst hwr
      have HK := Lib.hid hk
      have HT := Lib.hid ht
      clear hk ht
      cases k with
      | zero =>
        obtain rfl : N = 0 := HT.out.symm
        go_wp2_with fail
        go_ret
        exact ⟨rfl, rfl⟩
      | succ m =>
        have x0 := HCl.out m HK.out
        have t1 : decide ((0 : Int) < (m : Int) + 1) = true := decide_eq_true (by omega)
        have t2 : decide (0 < m + 1) = true := decide_eq_true (by omega)
        have e1 : IntKind.i64.wrap (m : Int) = m := IntWalk.i64_in _ (by have := HK.out; have := HD.out.2.1; omega)
        have e2 : wrap64 (m : Int) = m := IntWalk.wrap64_in _ (by have := HK.out; have := HD.out.2.1; omega)
        have i1 : (0 : Int) ≤ (m : Int) := by omega
        have i2 : (m : Int) < (m : Int) + 1 := by omega
        have i3 : ((m : Int)).toNat = m := Int.toNat_natCast m
        have q1 : m ≤ c := by have := HK.out; have := HD.out.2.2; omega
        by_cases hz : d m = 0
        · have z1 : (d m == 0) = true := by rw [hz]; rfl
          rw [hz] at x0
          have ht' : trimN d m = N := by rw [← HT.out]; show _ = if d m = 0 then _ else _; rw [if_pos hz]
          have HT' := Lib.hid ht'
          clear ht' hz z1
          go_wp2_with fail
          go_roundg m
          case rel => exact ⟨by have := HK.out; omega, HT'.out, by go_num, rfl⟩
          case measure => omega
        · have z1 : (d m == 0) = false := beq_eq_false_iff_ne.2 hz
          have z2 : ((d m : Int) == 0) = false := beq_eq_false_iff_ne.2 (by omega)
          have z3 : decide (d m = 0) = false := decide_eq_false hz
          obtain rfl : N = m + 1 := by rw [← HT.out]; show (if d m = 0 then _ else _) = _; rw [if_neg hz]
          clear hz
          go_wp2_with fail
          go_ret
          exact ⟨rfl, rfl⟩
set_option maxHeartbeats 400000 in
set_option maxRecDepth 100000 in
theorem trimR_any {w : World} {S : Nat → Prop} {p : Option Addr} {n c : Nat} {d : By} (hs : Sl w S 1 (.slice p n c) n (bcells d n)) (hd : ∀ i, d i < 256) (hn : n ≤ 4096) (h0 : 0 < n) :
    Calls Tryz.prog 88 #[.slice p n c, .string ⟨#[0]⟩] w (RetW (.slice p (trimN d n) c) fun w' => w' = w) := by
  have HB := Lib.hid (trimByte_any hs hd hn)
  have t1 : ((n : Int) == 0) = false := beq_eq_false_iff_ne.2 (by omega)
  have t2 : (n == 0) = false := beq_eq_false_iff_ne.2 (by omega)
  have t3 : decide (n = 0) = false := decide_eq_false (by omega)
  clear hs hd h0
  go_enter Tryz.func88, Tryz.ntmps88
  go_wp2_with fail
  refine HB.out.mono ?_
  rintro e w1 ⟨rfl, hw⟩
  subst hw
  go_wp2_with fail
  go_ret
  exact ⟨rfl, rfl⟩
theorem U8t : (Tryz.prog.info? 5).map (fun i => (i.zero, i.size, i.bytes)) = some (some (.int .u8 0), 1, 1) := by kernel_rfl
set_option maxHeartbeats 400000 in
set_option maxRecDepth 100000 in
theorem bclone_any {w : World} {S : Nat → Prop} {g off n c : Nat} {d : By} (hs : Sl w S 1 (.slice (some ⟨g, off, none⟩) n c) n (bcells d n)) (hn : n ≤ 4096) :
    Calls Tryz.prog 87 #[.slice (some ⟨g, off, none⟩) n c] w (RetV fun v' w' => Own w' (fun k => w.heap.size ≤ k) 5 1 v' n (bcells d n) ∧ Chg NoB w w') := by
  obtain ⟨i0, hi0, hz0, hz1, hz2⟩ := info_parts U8t
  have heq := fun w' => Lib.run_eql_slice_nil (P := Tryz.prog) w' 50 5 (some ⟨g, off, none⟩) n c 0 0 Tryz.underlying50
  have o1 : Own (w.alloc (.cells #[] 5)) (fun k => k = w.heap.size) 5 1 (.slice (some ⟨w.heap.size, 0, none⟩) 0 0) 0 [] := Own.fresh w [] 5 0 rfl (by unfold maxLen; omega)
  have s1 := hs.chg0 ((Chg.refl NoB w).alloc (.cells #[] 5))
  have b1 : 0 + n ≤ maxLen := by unfold maxLen; omega
  have b2 : (0 + n) * 1 ≤ 140737488355328 := by omega
  have one : ∀ u ∈ bcells d n, u.oneCell' = true := by unfold bcells; simp [Value.oneCell']
  clear hs
  go_enter Tryz.func87, Tryz.ntmps87
  go_wp2_with (at_builtin; go_must (refine wpList_app rfl _ _ 50 rfl i0 _ 1 Tryz.underlying50 hi0 hz0 hz1 hz2 rfl rfl o1 _ n _ rfl s1 one b1 b2 ?_))
  intro v2 w2 o2 g2 _
  replace o2 : Own w2 (fun k => w.heap.size ≤ k) 5 1 v2 n (bcells d n) := by simpa using o2.mono (S' := fun k => w.heap.size ≤ k) (fun k hk => by simp [Value.ownBlock] at hk; omega)
  have C2 : Chg NoB w w2 := ((Chg.refl NoB w).alloc _).grown g2 (fun k hk => .inr (by simp [Value.ownBlock] at hk; omega))
  clear o1 s1 g2
  go_wp2_with fail
  go_ret
  exact ⟨_, rfl, o2, C2⟩
set_option maxHeartbeats 400000 in
set_option maxRecDepth 100000 in
theorem trim_any {w : World} {S : Nat → Prop} {v : Value} {n : Nat} {d : By} (hs : Sl w S 1 v n (bcells d n)) (hd : ∀ i, d i < 256) (hn : n ≤ 4096) (h0 : 0 < n) :
    Calls Tryz.prog 44 #[v] w (RetV fun v' w' => Own w' (fun k => w.heap.size ≤ k) 5 1 v' (trimN d n) (bcells d (trimN d n)) ∧ Chg NoB w w') := by
  obtain ⟨h1, p, c, rfl, hnc, hc⟩ := hs
  obtain ⟨g, off, rfl, hS, hgl, hcell⟩ := hc h0
  have hs : Sl w S 1 (.slice (some ⟨g, off, none⟩) n c) n (bcells d n) := ⟨h1, _, c, rfl, hnc, fun _ => ⟨g, off, rfl, hS, hgl, hcell⟩⟩
  have hle := trimN_le d n
  have hs2 : Sl w S 1 (.slice (some ⟨g, off, none⟩) (trimN d n) c) (trimN d n) (bcells d (trimN d n)) :=
    ⟨by rw [bcells_len]; omega, _, c, rfl, by omega, fun _ => ⟨g, off, rfl, hS, hgl, fun j u hu => hcell j u (by
      have hj : j < trimN d n := by have := (List.getElem?_eq_some_iff.1 hu).1; rwa [bcells_len] at this
      rw [bcells_get hj] at hu
      rw [bcells_get (by omega)]; exact hu)⟩⟩
  have HT := Lib.hid (trimR_any hs hd hn h0)
  have HC := Lib.hid (bclone_any hs2 (by omega))
  clear hs hs2 hcell hc h1 hd hn h0 hle
  go_enter Tryz.func44, Tryz.ntmps44
  go_wp2_with fail
  refine HT.out.mono ?_
  rintro e w1 ⟨rfl, hw⟩
  subst hw
  go_wp2_with fail
  refine HC.out.mono ?_
  rintro e w2 ⟨v', rfl, ho, hc⟩
  have HX := Lib.hid (And.intro ho hc)
  clear ho hc
  go_wp2_with fail
  go_ret
  exact ⟨_, rfl, HX.out⟩
end Go.Proofs.YtdjaeoeejcmhdaaGreatDoor
