/- The audit: bytes of a page set; spaces whose pages' rights are set. No condition. The audit: what doesn't hold is found. No condition. -/
import Derived.Test.YtleilfkcjollaaaGreatHl
set_option linter.unusedVariables false
set_option linter.unusedSimpArgs false
namespace Go.Proofs.YtleilfkcjollaaaGreat
open Go.RowKit Go.RR
set_option maxHeartbeats 1000000 in
set_option maxRecDepth 100000 in
theorem setData_any {w : World} {L : Pl} {s : Spc} (h : SpAt w L s) (p : Nat) (hp : (p : Int) < s.shape.shared) (f : Nat) (hf : frameOf s p = some f) (hfr : f < s.u.fr) (v : Value) (n : Nat) (d : By) (Sd : Nat → Prop) (hd : ByOk d) (hs : Sl w Sd 1 v n (bcells d n)) (hn : n ≤ 4096) :
    Calls Tryz.prog 21 #[.pointer (some ⟨L.pb, 0, none⟩), .int .i64 p, v] w (RetW (.int .i64 0) fun w' => ∃ L' : Pl, Ext L L' w ∧ SpAt w' L' { s with u := { s.u with b := layPg s.u.b f (padF d n) } } ∧ Chg L.All w w') := by
  obtain ⟨vp, vc, hvf⟩ := hs.form
  subst hvf
  have HT := Lib.hid (sThere_any h p (by omega) hp)
  have HF := Lib.hid (frame_has h p f hf)
  have HP := Lib.hid (setPage_any h.mu.mem f hfr _ n d hd hs hn)
  have H := Lib.hid h
  have f3 := h.blk.cell' (i := 3) (v := .pointer (some ⟨L.mb, 0, none⟩)) rfl
  have fl := h.blk.lt
  have t1 : decide ((4096 : Int) < n) = false := decide_eq_false (by omega)
  have t2 : decide (4096 < n) = false := decide_eq_false (by omega)
  clear h hs hd hn hf hfr hp
  go_enter Tryz.func21, Tryz.ntmps21
  go_wp2_with fail
  with_reducible refine HT.out.mono ?_
  rintro e w1 ⟨rfl, hw⟩
  subst hw
  go_wp2_with fail
  with_reducible refine HF.out.mono ?_
  rintro e w2 ⟨rfl, hw⟩
  subst hw
  go_wp2_with fail
  with_reducible refine HP.out.mono ?_
  rintro e w3 ⟨rfl, hm, C3⟩
  have HR := Lib.hid (H.out.remem hm C3)
  clear hm C3
  go_wp2_with fail
  go_ret
  exact ⟨rfl, _, Ext.grow L w2 w3, HR.out.1, HR.out.2⟩
theorem putI_len {α : Type} (k : Int) (v : α) : ∀ l : List (Int × α), (putI l k v).length ≤ l.length + 1
  | [] => Nat.le_refl _
  | x :: l => by
    unfold putI
    split
    · show l.length + 1 ≤ l.length + 1 + 1; omega
    · have := putI_len k v l
      show (putI l k v).length + 1 ≤ l.length + 1 + 1
      omega
theorem frameF_keep (s : Spc) (p : Int) : (frameF s p).2.u.tlb = s.u.tlb ∧ (frameF s p).2.shared.length ≤ s.shared.length + 1 := by
  unfold frameF
  split
  · exact ⟨rfl, Nat.le_succ _⟩
  · split
    · exact ⟨rfl, Nat.le_succ _⟩
    · exact ⟨rfl, putI_len _ _ _⟩
theorem remapF_keep (s : Spc) (p : Int) (f : Nat) (r : Int) : (remapF s p f r).2.u.tlb = s.u.tlb ∧ (remapF s p f r).2.shared = s.shared := by
  unfold remapF
  split
  · exact ⟨rfl, rfl⟩
  · split
    · exact ⟨rfl, rfl⟩
    · exact ⟨rfl, rfl⟩
theorem setF_keep (s : Spc) (p r : Int) : ((setF s p r).2.u.tlb = s.u.tlb ∨ (setF s p r).2.u.tlb = tlbFence s.u.tlb (vaOf p)) ∧ (setF s p r).2.shared.length ≤ s.shared.length + 1 := by
  have h1 := frameF_keep s p
  have h2 := remapF_keep (frameF s p).2 p (frameF s p).1.1 r
  unfold setF
  split
  · exact ⟨.inl rfl, Nat.le_succ _⟩
  · split
    · exact ⟨.inl rfl, Nat.le_succ _⟩
    · split
      · exact ⟨.inl rfl, Nat.le_succ _⟩
      · dsimp only
        split
        · exact ⟨.inl h1.1, h1.2⟩
        · split
          · exact ⟨.inl (h2.1.trans h1.1), by rw [h2.2]; exact h1.2⟩
          · refine ⟨.inr ?_, ?_⟩
            · show tlbFence (remapF (frameF s p).2 p (frameF s p).1.1 r).2.u.tlb (vaOf p) = _
              rw [h2.1, h1.1]
            · show (remapF (frameF s p).2 p (frameF s p).1.1 r).2.shared.length ≤ _
              rw [h2.2]; exact h1.2
theorem fence_zero {b : Tlb} (h : ∀ l ∈ b, ∀ e ∈ l, e = Way.zero) (va : Nat) : ∀ l ∈ tlbFence b va, ∀ e ∈ l, e = Way.zero := by
  intro l hl e he
  unfold tlbFence at hl
  obtain ⟨l0, hl0, rfl⟩ := List.mem_map.1 hl
  obtain ⟨e0, he0, rfl⟩ := List.mem_map.1 he
  split
  · rfl
  · exact h l0 hl0 e0 he0
/-- A space at rest, its pages' rights set: k frames of shared pages at most; from where on there are frames. -/
structure SpK (s : Spc) (k : Nat) : Prop where
  inv : ∃ t1 t0, SpInv s t1 t0
  shape : s.shape = ⟨1, 1, 2⟩
  tz : ∀ l ∈ s.u.tlb, ∀ e ∈ l, e = Way.zero
  shl : s.shared.length ≤ k
theorem SpK.ok {s : Spc} {k : Nat} (h : SpK s k) (hk : k ≤ 2) : SpOk s := ⟨h.inv, h.shape, h.tz, Nat.le_trans h.shl hk⟩
/-- A right set: in a new space, or where the page had one. -/
theorem SpK.set {s : Spc} {k : Nat} (h : SpK s k) {p : Nat} (hp : p < 2) {r : Int} (h0 : 0 ≤ r) (h2 : r ≤ 2) (hr : (∃ t1 t0, SpInv s t1 t0 ∧ s.stk.next = 5 ∧ s.stk.fin = 9) ∨ rightOf s p ≠ 0) :
    SetOk s p r ∧ SpK (setF s p r).2 (k + 1) ∧ Stay s (setF s p r).2 ∧ (∀ q, rightOf (setF s p r).2 q = if q = p then r else rightOf s q) ∧ (∀ f, frameOf s p = none → frameOf (setF s p r).2 p = some f → ∀ i, i < 4096 → (setF s p r).2.u.b (f * 4096 + i) = 0) := by
  have hsh : s.shape.shared = 2 := by rw [h.shape]
  have key : ∀ t1 t0, SpInv s t1 t0 → (s.stk.next = 5 ∧ s.stk.fin = 9 ∨ rightOf s p ≠ 0) → SetOk s p r ∧ SpK (setF s p r).2 (k + 1) ∧ Stay s (setF s p r).2 ∧ (∀ q, rightOf (setF s p r).2 q = if q = p then r else rightOf s q) ∧ (∀ f, frameOf s p = none → frameOf (setF s p r).2 p = some f → ∀ i, i < 4096 → (setF s p r).2.u.b (f * 4096 + i) = 0) := by
    intro t1 t0 I hc
    obtain ⟨S, St, R, -, Z, t1', t0', I', -⟩ := set_inv I (p := p) (r := r) (by rw [hsh]; omega) h0 h2 (fun _ => by
      have n1 : noneN (frameOf s p) ≤ 1 := by unfold noneN; split <;> omega
      have n2 : noneN (t1 1) ≤ 1 := by unfold noneN; split <;> omega
      have n3 : noneN (t0 (512 + p / 512)) ≤ 1 := by unfold noneN; split <;> omega
      rcases hc with hc | hc
      · split <;> omega
      · rw [if_neg hc]
        obtain ⟨f, hf⟩ := Option.isSome_iff_exists.1 (I.rf p hc)
        have h5 : s.stk.next ≤ s.stk.fin := I.inv.nx
        rw [hf]
        show s.stk.next + 0 + 0 ≤ _
        omega)
    obtain ⟨k1, k2⟩ := setF_keep s p r
    refine ⟨S, ⟨⟨t1', t0', I'⟩, St.shape.trans h.shape, ?_, Nat.le_trans k2 (Nat.succ_le_succ h.shl)⟩, St, R, Z⟩
    rcases k1 with e | e
    · rw [e]; exact h.tz
    · rw [e]; exact fence_zero h.tz _
  rcases hr with ⟨t1, t0, I, hn, hf⟩ | hr
  · exact key t1 t0 I (.inl ⟨hn, hf⟩)
  · obtain ⟨t1, t0, I⟩ := h.inv
    exact key t1 t0 I (.inr hr)
/-- Bytes of a page that has a frame. -/
theorem SpK.bytes {s : Spc} {k : Nat} (h : SpK s k) {p : Int} {f : Nat} (hf : frameOf s p = some f) (d : By) : SpK { s with u := { s.u with b := layPg s.u.b f d } } k := by
  obtain ⟨t1, t0, I⟩ := h.inv
  refine ⟨⟨t1, t0, I.bytes fun a ha => ?_⟩, h.shape, h.tz, h.shl⟩
  have hn := (I.ft f (frameOf_mem hf)).2
  unfold layPg
  rw [if_neg (fun e => hn (by rw [← e]; exact ha))]
theorem sp0_k : SpK (ndSp 2 []) 0 ∧ ∃ t1 t0, SpInv (ndSp 2 []) t1 t0 ∧ (ndSp 2 []).stk.next = 5 ∧ (ndSp 2 []).stk.fin = 9 := by
  obtain ⟨-, -, -, -, -, t1, t0, I, hn, hf, -⟩ := nd_new 2 (.inr rfl) [] (fun x hx => by cases hx) (by decide)
  exact ⟨⟨⟨t1, t0, I⟩, rfl, sp0_ok.tz, Nat.le_refl _⟩, t1, t0, I, hn, hf⟩
theorem sp0_right (p : Int) : rightOf (ndSp 2 []) p = 0 := by
  have : (ndSp 2 []).rights = [] := rfl
  unfold rightOf
  rw [this]
  rfl
theorem sp0_frame (p : Int) : frameOf (ndSp 2 []) p = none := by
  have : (ndSp 2 []).shared = [] := rfl
  unfold frameOf
  rw [this]
  rfl
theorem vB_of {s : Spc} {p : Int} {r : Int} (h : rightOf s p = r) : vB s p = !(r == 0) := by unfold vB; rw [h]
theorem wB_of {s : Spc} {p : Int} {r : Int} (h : rightOf s p = r) : wB s p = (r == 2) := by unfold wB; rw [h]
/-- A one, then noughts. -/
def oneD : By := padF (fun _ => 1) 1
/-- The spaces of a law's nodes: 1 the page's owner, who may write; 2 with a byte laid; 3 another right; 4 another node with a right; 5 the owner who may read. -/
def sA (p : Nat) : Spc := (setF (ndSp 2 []) p 2).2
def sB (p : Nat) : Spc := { sA p with u := { (sA p).u with b := layPg (sA p).u.b ((frameOf (sA p) p).getD 0) oneD } }
def sC (p : Nat) (r : Int) : Spc := (setF (sB p) p r).2
def sD (p : Nat) (r : Int) : Spc := (setF (ndSp 2 []) p r).2
structure FindOk (p : Nat) (r : Int) : Prop where
  oA : SetOk (ndSp 2 []) p 2
  kA : SpK (sA p) 1
  fA : ∃ f, frameOf (sA p) p = some f ∧ f < (sA p).u.fr ∧ sB p = { sA p with u := { (sA p).u with b := layPg (sA p).u.b f oneD } }
  kB : SpK (sB p) 1
  rB : ∀ q, rightOf (sB p) q = if q = p then 2 else 0
  dB : ∀ a, a < 4096 → dataF (sB p) p a = oneD a
  oC : SetOk (sB p) p r
  kC : SpK (sC p r) 2
  rC : ∀ q, rightOf (sC p r) q = if q = p then r else 0
  dC : ∀ a, a < 4096 → dataF (sC p r) p a = oneD a
  oD : SetOk (ndSp 2 []) p r
  kD : SpK (sD p r) 1
  rD : ∀ q, rightOf (sD p r) q = if q = p then r else 0
  dD : ∀ a, a < 4096 → dataF (sD p r) p a = 0
theorem dataF_some {s : Spc} {p : Int} {f : Nat} (h : frameOf s p = some f) (a : Nat) : dataF s p a = s.u.b (4096 * f + a) := by unfold dataF; rw [h]; rfl
theorem dataF_none {s : Spc} {p : Int} (h : frameOf s p = none) (a : Nat) : dataF s p a = 0 := by unfold dataF; rw [h]
theorem find_ok {p : Nat} (hp : p < 2) {r : Int} (h0 : 0 ≤ r) (h2 : r ≤ 2) : FindOk p r := by
  obtain ⟨k0, hnew⟩ := sp0_k
  obtain ⟨oA, kA, stA, rA, zA⟩ := k0.set hp (r := 2) (by omega) (by omega) (.inl hnew)
  have rA' : ∀ q : Int, rightOf (sA p) q = if q = p then 2 else 0 := fun q => by
    show rightOf (setF (ndSp 2 []) p 2).2 q = _
    rw [rA q, sp0_right]
  obtain ⟨t1, t0, IA⟩ := kA.inv
  obtain ⟨f, hf⟩ := Option.isSome_iff_exists.1 (IA.rf p (by have := rA' p; rw [if_pos rfl] at this; show rightOf (sA p) p ≠ 0; omega))
  have hf : frameOf (sA p) p = some f := hf
  have hfr : f < (sA p).u.fr := by
    have h1 := (IA.ft f (frameOf_mem hf)).1
    have h3 : (sA p).stk.next ≤ (sA p).stk.fin := IA.inv.nx
    have h4 : (sA p).stk.fin ≤ (sA p).u.fr := IA.inv.fin
    have h1 : f < (sA p).stk.next := h1
    omega
  have eB : sB p = { sA p with u := { (sA p).u with b := layPg (sA p).u.b f oneD } } := by unfold sB; rw [hf]; rfl
  have kA : SpK (sA p) 1 := kA
  have kB : SpK (sB p) 1 := by rw [eB]; exact kA.bytes hf oneD
  have rB : ∀ q : Int, rightOf (sB p) q = if q = p then 2 else 0 := fun q => by rw [eB]; exact rA' q
  have hfB : frameOf (sB p) p = some f := by rw [eB]; exact hf
  have dB : ∀ a, a < 4096 → dataF (sB p) p a = oneD a := fun a ha => by
    rw [dataF_some hfB, eB]
    show (if (4096 * f + a) / 4096 = f then oneD ((4096 * f + a) % 4096) else _) = _
    rw [if_pos (by omega), show (4096 * f + a) % 4096 = a by omega]
  have hn2 : rightOf (sB p) p ≠ 0 := by have := rB p; rw [if_pos rfl] at this; omega
  obtain ⟨oC, kC, stC, rC, -⟩ := kB.set hp h0 h2 (.inr hn2)
  obtain ⟨oD, kD, stD, rD, zD⟩ := k0.set hp h0 h2 (.inl hnew)
  refine ⟨oA, kA, ⟨f, hf, hfr, eB⟩, kB, rB, dB, oC, kC, fun q => ?_, fun a ha => ?_, oD, kD, fun q => ?_, fun a ha => ?_⟩
  · show rightOf (setF (sB p) p r).2 q = _
    rw [rC q, rB q]
    split <;> rfl
  · have hfC : frameOf (sC p r) p = some f := stC.frm p f hfB
    rw [dataF_some hfC, ← dB a ha, dataF_some hfB]
    exact stC.old _ (by rw [show (4096 * f + a) / 4096 = f by omega]; exact frameOf_mem hfB)
  · show rightOf (setF (ndSp 2 []) p r).2 q = _
    rw [rD q, sp0_right]
  · cases hfd : frameOf (sD p r) p with
    | none => exact dataF_none hfd a
    | some f2 =>
      rw [dataF_some hfd, show 4096 * f2 + a = f2 * 4096 + a by omega]
      exact zD f2 (sp0_frame p) hfd a ha
end Go.Proofs.YtleilfkcjollaaaGreat
set_option linter.unusedVariables false
set_option linter.unusedSimpArgs false
namespace Go.Proofs.YtleilfkcjollaaaGreat
open Go.RowKit Go.RR
/-- A right set in a node's space. -/
theorem CLx.set {w wr : World} {F F' : Nat → Nat → Prop} {P : Cpl} {n : Nat} {s0 s : Nat → Spc} (h : CL wr F' P n n s) (i : Nat) (hi : i < n) (p : Nat) (r : Int) (hS : SetOk (s i) p r) (hO : SpOk (setF (s i) p r).2) :
    Calls Tryz.prog 20 #[.pointer (some ⟨P.pb i, 0, none⟩), .int .i64 p, .int .i64 r] wr (RetW (.int .i64 0) fun w' => ∃ F'', CL w' F'' P n n (fun j => if j = i then (setF (s i) p r).2 else s j) ∧ Ext2 F' F'' wr ∧ Chg (InF F') wr w') := by
  obtain ⟨L, hL, hpb, hf⟩ := h.sp i hi
  have := set_any hL p r hS
  rw [hpb] at this
  refine this.mono ?_
  rintro e w' ⟨rfl, L', hE, hL', c⟩
  obtain ⟨h1, h2⟩ := h.space hi hpb hf hL' hE c hO
  exact ⟨rfl, _, h1, Ext2.gr F' _ wr w', h2⟩
theorem CLx.setData {wr : World} {F' : Nat → Nat → Prop} {P : Cpl} {n : Nat} {s : Nat → Spc} (h : CL wr F' P n n s) (i : Nat) (hi : i < n) (p : Nat) (hp : p < 2) (f : Nat) (hf : frameOf (s i) p = some f) (hfr : f < (s i).u.fr) (v : Value) (m : Nat) (d : By) (Sd : Nat → Prop) (hd : ByOk d) (hs : Sl wr Sd 1 v m (bcells d m)) (hm : m ≤ 4096)
    (hO : SpOk { s i with u := { (s i).u with b := layPg (s i).u.b f (padF d m) } }) :
    Calls Tryz.prog 21 #[.pointer (some ⟨P.pb i, 0, none⟩), .int .i64 p, v] wr (RetW (.int .i64 0) fun w' => ∃ F'', CL w' F'' P n n (fun j => if j = i then { s i with u := { (s i).u with b := layPg (s i).u.b f (padF d m) } } else s j) ∧ Ext2 F' F'' wr ∧ Chg (InF F') wr w') := by
  obtain ⟨L, hL, hpb, hfF⟩ := h.sp i hi
  have := setData_any hL p (by rw [(h.ok i hi).shape]; show (p : Int) < 2; omega) f hf hfr v m d Sd hd hs hm
  rw [hpb] at this
  refine this.mono ?_
  rintro e w' ⟨rfl, L', hE, hL', c⟩
  obtain ⟨h1, h2⟩ := h.space hi hpb hfF hL' hE c hO
  exact ⟨rfl, _, h1, Ext2.gr F' _ wr w', h2⟩
def S3 (p i : Nat) (r : Int) : Nat → Spc := fun j => if j = i then sD p r else if j = p then sB p else ndSp 2 []
def S4 (p i : Nat) (r : Int) : Nat → Spc := fun j => if j = p then sC p 1 else if j = i then sD p r else ndSp 2 []
theorem CLx.to {w wr w' : World} {F F' : Nat → Nat → Prop} {P : Cpl} {n : Nat} {s s' : Nat → Spc} (h : CLx w F P n s wr F') (k : ∃ F'', CL w' F'' P n n s' ∧ Ext2 F' F'' wr ∧ Chg (InF F') wr w') : ∃ F'', CLx w F P n s' w' F'' := by
  obtain ⟨F'', k1, k2, k3⟩ := k
  exact ⟨F'', k1, h.ex.trans k2 h.ch.size, h.ex.chg h.ch k3⟩
theorem pgS_ne {d1 d2 : By} (h1 : d1 0 = 1) (h2 : d2 0 = 0) : ((pgS d1).toList == (pgS d2).toList) = false ∧ ((pgS d2).toList == (pgS d1).toList) = false := by
  have key : (pgS d1).toList ≠ (pgS d2).toList := fun e => by
    rw [ByteArray.toList_eq, ByteArray.toList_eq] at e
    unfold pgS at e
    have e0 := congrArg (fun l : List UInt8 => l[0]?) e
    simp only [List.getElem?_map] at e0
    rw [show (List.range 4096)[0]? = some 0 from List.getElem?_range (by omega)] at e0
    simp only [Option.map_some, Option.some.injEq, h1, h2] at e0
    exact absurd e0 (by decide)
  exact ⟨beq_eq_false_iff_ne.2 key, beq_eq_false_iff_ne.2 fun e => key e.symm⟩
theorem eqR_sel {s : Nat → Spc} {p k i : Nat} (h : (decide (i = p) || vB (s i) p) = true) : eqR s p (k + 1) i none = eqR s p k (i + 1) (some (dataF (s i) p)) := by
  show (if decide (i = p) || vB (s i) p then _ else _) = _
  rw [if_pos h]
theorem eqR_bad {s : Nat → Spc} {p k i : Nat} {d : By} (h : (decide (i = p) || vB (s i) p) = true) (hd : ((pgS d).toList == (pgS (dataF (s i) p)).toList) = false) : eqR s p (k + 1) i (some d) = false := by
  show (if decide (i = p) || vB (s i) p then (if (pgS d).toList == (pgS (dataF (s i) p)).toList then _ else false) else _) = _
  rw [if_pos h, hd]
  rfl
theorem eqR_skip {s : Nat → Spc} {p k i : Nat} {b : Option By} (h : (decide (i = p) || vB (s i) p) = false) : eqR s p (k + 1) i b = eqR s p k (i + 1) b := by
  show (if decide (i = p) || vB (s i) p then _ else _) = _
  rw [if_neg (by rw [h]; decide)]
/-- The spaces: i has a right r, p has its own. -/
structure Two (s : Nat → Spc) (p i : Nat) : Prop where
  p2 : p < 2
  i3 : i < 3
  ne : i ≠ p
  vp : vB (s p) p = true
  vi : vB (s i) p = true
  no : ∀ k, k ≠ p → k ≠ i → vB (s k) p = false
  oth : ∀ k (q : Nat), q ≠ p → vB (s k) q = false
theorem Two.ex {s : Nat → Spc} {p i : Nat} (h : Two s p i) (hw : wB (s p) p = true ∨ wB (s i) p = true) : exB s 3 p = false := by
  obtain ⟨p2, i3, ne, vp, vi, no, -⟩ := h
  have hc : cnt (fun j => vB (s j) p) 3 = 2 := by
    rcases p with _ | _ | p <;> rcases i with _ | _ | _ | i <;> first | omega | skip
    · simp only [cnt, vp, vi, no 2 (by omega) (by omega)]; rfl
    · simp only [cnt, vp, vi, no 1 (by omega) (by omega)]; rfl
    · simp only [cnt, vp, vi, no 2 (by omega) (by omega)]; rfl
    · simp only [cnt, vp, vi, no 0 (by omega) (by omega)]; rfl
  have hd : cnt (fun j => wB (s j) p) 3 ≠ 0 := by
    rcases hw with hw | hw
    · rcases p with _ | _ | p <;> first | omega | skip
      · simp only [cnt, hw]; simp
      · simp only [cnt, hw]; simp
    · rcases i with _ | _ | _ | i <;> first | omega | skip
      · simp only [cnt, hw]; simp
      · simp only [cnt, hw]; simp
      · simp only [cnt, hw]; simp
  unfold exB
  rw [hc, beq_eq_false_iff_ne.2 hd]
  rfl
theorem Two.ft {s : Nat → Spc} {p i : Nat} (h : Two s p i) {f : Nat} (hf : ftN s 3 p = f) (h0 : f ≠ 0) : ckV s 3 = .tuple #[.int .i64 p, .string (ftS f)] := by
  have hz : ∀ q : Nat, q < 3 → q ≠ p → ftN s 3 q = 0 := fun q hq hne => (ft_one (s := s) (n := 3) (p := q) hq fun j e => by rw [h.oth j q hne] at e; cases e).2.2.2
  have hp := h.p2
  unfold ckV
  rcases p with _ | _ | p
  · rw [if_neg (by rw [hf]; exact h0), hf]; rfl
  · rw [if_pos (hz 0 (by omega) (by omega)), if_neg (by rw [hf]; exact h0), hf]; rfl
  · omega
theorem Two.ft1 {s : Nat → Spc} {p i : Nat} (h : Two s p i) (hw : wB (s p) p = true ∨ wB (s i) p = true) : ckV s 3 = .tuple #[.int .i64 p, .string (ftS 1)] := h.ft (by unfold ftN; rw [h.ex hw]; rfl) (by omega)
theorem Two.mem {s : Nat → Spc} {p i : Nat} (h : Two s p i) : mB s 3 p = false := mB_false h.i3 h.vi h.ne
theorem Two.ft2 {s : Nat → Spc} {p i : Nat} (h : Two s p i) (hw : wB (s p) p = false) (hw2 : wB (s i) p = false) : ckV s 3 = .tuple #[.int .i64 p, .string (ftS 2)] := h.ft (by
  have he : exB s 3 p = true := by
    unfold exB
    rw [cnt_zero (f := fun j => wB (s j) p) 3 fun j _ => by
      show wB (s j) p = false
      by_cases e : j = p
      · rw [e]; exact hw
      · by_cases e2 : j = i
        · rw [e2]; exact hw2
        · cases e3 : wB (s j) p with
          | false => rfl
          | true =>
            have h1 := h.no j e e2
            rw [wB_vB e3] at h1
            cases h1]
    rfl
  unfold ftN
  rw [he, h.mem]
  rfl) (by omega)
theorem Two.eq {s : Nat → Spc} {p i : Nat} (h : Two s p i) (hd : dataF (s p) p 0 = 1) (hd2 : dataF (s i) p 0 = 0) : eqB s 3 p = false := by
  obtain ⟨p2, i3, ne, vp, vi, no, -⟩ := h
  have hne := pgS_ne hd hd2
  unfold eqB
  rcases p with _ | _ | p <;> rcases i with _ | _ | _ | i <;> first | omega | skip
  · show eqR s 0 (2 + 1) 0 none = false
    rw [eqR_sel (by rw [vp]; rfl)]
    exact eqR_bad (k := 1) (i := 1) (by rw [show vB (s 1) (0 : Nat) = true from vi]; simp) hne.1
  · show eqR s 0 (2 + 1) 0 none = false
    rw [eqR_sel (by rw [vp]; rfl)]
    show eqR s 0 (1 + 1) 1 _ = false
    rw [eqR_skip (by rw [no 1 (by omega) (by omega)]; rfl)]
    exact eqR_bad (k := 0) (i := 2) (by rw [show vB (s 2) (0 : Nat) = true from vi]; simp) hne.1
  · show eqR s 1 (2 + 1) 0 none = false
    rw [eqR_sel (by rw [show vB (s 0) (1 : Nat) = true from vi]; simp)]
    exact eqR_bad (k := 1) (i := 1) (by rw [show vB (s 1) (1 : Nat) = true from vp]; simp) hne.2
  · show eqR s 1 (2 + 1) 0 none = false
    rw [eqR_skip (by rw [no 0 (by omega) (by omega)]; rfl)]
    show eqR s 1 (1 + 1) 1 none = false
    rw [eqR_sel (by rw [show vB (s 1) (1 : Nat) = true from vp]; simp)]
    exact eqR_bad (k := 0) (i := 2) (by rw [show vB (s 2) (1 : Nat) = true from vi]; simp) hne.1
set_option maxHeartbeats 4000000 in
set_option maxRecDepth 100000 in
theorem auditFinds_any (a0 a1 a2 : Int) (h0 : 0 ≤ a0) (h0' : a0 < 256) (h1 : 0 ≤ a1) (h1' : a1 < 256) (h2 : 0 ≤ a2) (h2' : a2 < 256) (w : World) :
    Calls Tryz.prog 5 #[.int .u8 a0, .int .u8 a1, .int .u8 a2] w (RetW (.bool true) fun w' => Chg NoB w w') := by
  have HF := Lib.hid (first28_any w)
  have HU : Hid (∀ w', Calls Tryz.prog 16 #[.int .i64 3, .int .i64 2] w' (RetW (.agg #[.int .i64 3, .int .i64 1, .int .i64 2, .int .i64 2, .int .i64 2, .int .i64 2, .int .i64 2, .int .i64 3, .int .i64 12]) fun w'' => Chg NoB w' w'')) := Lib.hid fun w' => usual_any 3 2 w'
  have HN : Hid (∀ w', Calls Tryz.prog 17 #[.agg #[.int .i64 3, .int .i64 1, .int .i64 2, .int .i64 2, .int .i64 2, .int .i64 2, .int .i64 2, .int .i64 3, .int .i64 12], .slice none 0 0] w' (RetV fun v w'' => ∃ (P : Cpl) (F : Nat → Nat → Prop), v = .tuple #[.pointer (some ⟨P.cb, 0, none⟩), .int .i64 0] ∧ CL w'' F P 3 3 (fun _ => ndSp 2 []) ∧ (∀ a k, F a k → w'.heap.size ≤ k) ∧ Chg NoB w' w'')) := Lib.hid fun w' => cNew_any 3 (by omega) (by omega)
  obtain ⟨p, hp, hp2⟩ : ∃ p : Nat, a0 % 2 = p ∧ p < 2 := ⟨(a0 % 2).toNat, by omega, by omega⟩
  obtain ⟨i, hi, hi2⟩ : ∃ i : Nat, a1 % 3 = i ∧ i < 3 := ⟨(a1 % 3).toNat, by omega, by omega⟩
  obtain ⟨r, hr, hr2⟩ : ∃ r : Nat, a2 % 3 = r ∧ r < 3 := ⟨(a2 % 3).toNat, by omega, by omega⟩
  have HX := Lib.hid (And.intro hp (And.intro hp2 (And.intro hi (And.intro hi2 (And.intro hr hr2)))))
  have HB := Lib.hid (And.intro h0 (And.intro h0' (And.intro h1 (And.intro h1' (And.intro h2 h2')))))
  clear hp hp2 hi hi2 hr hr2
  go_enter Tryz.func5, Tryz.ntmps5
  go_wp2_with fail
  with_reducible refine HF.out.mono ?_
  rintro e w0 ⟨rfl, C0⟩
  have HC0 := Lib.hid C0
  clear C0
  go_wp2_with fail
  with_reducible refine (HU.out _).mono ?_
  rintro e w1 ⟨rfl, C1⟩
  have hB := Blk.new w1 #[.int .i64 3, .int .i64 1, .int .i64 2, .int .i64 2, .int .i64 2, .int .i64 2, .int .i64 2, .int .i64 3, .int .i64 12] 28
  have HC := Lib.hid (HC0.out.step (C1.alloc (.cells #[.int .i64 3, .int .i64 1, .int .i64 2, .int .i64 2, .int .i64 2, .int .i64 2, .int .i64 2, .int .i64 3, .int .i64 12] 28)))
  go_upto_region 4 with fail
  generalize w1.alloc (.cells #[.int .i64 3, .int .i64 1, .int .i64 2, .int .i64 2, .int .i64 2, .int .i64 2, .int .i64 2, .int .i64 3, .int .i64 12] 28) = w2 at *
  obtain ⟨cf, hcf⟩ : ∃ b, w1.heap.size = b := ⟨_, rfl⟩
  rw [hcf] at hB
  simp only [hcf]
  have HBf := Lib.hid hB
  have HZ := Lib.hid hB.lt
  have g := hB.ever
  have gl := hB.everL
  have c0 := Chg.refl NoB w2
  clear hcf C1 hB
  go_wp2_with fail
  with_reducible refine (HN.out _).mono ?_
  rintro e w3 ⟨v, rfl, P, F, rfl, hCL, hF, C3⟩
  have HCL := Lib.hid hCL
  have HC3 := Lib.hid (And.intro C3 hF)
  have HB3 := Lib.hid (C3.blk0 HBf.out)
  have HFin : Hid (∀ w', Chg (InF F) w3 w' → Chg NoB w w') := Lib.hid (fun w' c => HC.out.step (C3.trans c fun k hk ⟨a, e⟩ => by have := hF a k e; omega))
  have HBC : Hid (∀ w', Chg (InF F) w3 w' → Blk w' cf #[.int .i64 3, .int .i64 1, .int .i64 2, .int .i64 2, .int .i64 2, .int .i64 2, .int .i64 2, .int .i64 3, .int .i64 12] 28) := Lib.hid (fun w' c => c.blk HB3.out fun ⟨a, e⟩ => by have := HC3.out.2 a cf e; have := HZ.out; omega)
  clear hCL hF C3 g gl c0
  go_upto_region 6 with fail
  rw [HX.out.1, HX.out.2.2.1, HX.out.2.2.2.2.1]
  have hOk := Lib.hid (find_ok HX.out.2.1 (r := (r : Int)) (by omega) (by have := HX.out.2.2.2.2.2; omega))
  have hOk1 := Lib.hid (find_ok HX.out.2.1 (r := 1) (by omega) (by omega))
  have HNd := Lib.hid (cNode_any HCL.out p (by have := HX.out.2.1; omega))
  have HSp := Lib.hid (nSpace_any HCL.out p (by have := HX.out.2.1; omega))
  have HSe := Lib.hid (CLx.set (w := w3) (F := F) (s0 := fun _ => ndSp 2 []) HCL.out p (by have := HX.out.2.1; omega) p 2 hOk.out.oA (hOk.out.kA.ok (by omega)))
  obtain ⟨nb, hnb⟩ : ∃ b, P.nb p = b := ⟨_, rfl⟩
  obtain ⟨pb, hpb⟩ : ∃ b, P.pb p = b := ⟨_, rfl⟩
  have HNB := Lib.hid (And.intro hnb hpb)
  rw [hnb] at HNd HSp
  rw [hpb] at HSp HSe
  clear hnb hpb
  go_wp2_with fail
  with_reducible refine HNd.out.mono ?_
  rintro e w4 ⟨rfl, hw⟩
  subst hw
  go_wp2_with fail
  with_reducible refine HSp.out.mono ?_
  rintro e w4' ⟨rfl, hw⟩
  subst hw
  go_wp2_with fail
  with_reducible refine HSe.out.mono ?_
  rintro e w5 ⟨rfl, hT⟩
  obtain ⟨F5, H5⟩ := (CLx.refl HCL.out).to hT
  have e5 : (fun j => if j = p then (setF (ndSp 2 []) p 2).2 else ndSp 2 []) = (fun j => if j = p then sA p else ndSp 2 []) := rfl
  rw [e5] at H5
  have H5 := Lib.hid H5
  clear hT e5 HNd HSp HSe
  have HNd5 := Lib.hid (cNode_any H5.out.cl p (by have := HX.out.2.1; omega))
  have HSp5 := Lib.hid (nSpace_any H5.out.cl p (by have := HX.out.2.1; omega))
  rw [HNB.out.1] at HNd5 HSp5
  rw [HNB.out.2] at HSp5
  have ca : Chg NoB w5 (w5.alloc (.cells #[.int .u8 1] 5)) := (Chg.refl NoB w5).alloc _
  have hsl : Sl (w5.alloc (.cells #[.int .u8 1] 5)) (fun k => k = w5.heap.size) 1 (.slice (some ⟨w5.heap.size, 0, none⟩) 1 1) 1 (bcells (fun _ => 1) 1) := Sl.fresh w5 [.int .u8 1] 5 1 rfl
  obtain ⟨f, hf, hfr, eB⟩ := hOk.out.fA
  have H5a := H5.out.chg0 ca
  have hsd := CLx.setData H5a.cl p (by have := HX.out.2.1; omega) p HX.out.2.1 f (by rw [if_pos rfl]; exact hf) (by rw [if_pos rfl]; exact hfr) _ 1 (fun _ => 1) _ (fun _ => by show 1 < 256; omega) hsl (by omega) (by
    rw [if_pos rfl]
    have := hOk.out.kB.ok (by omega)
    rw [eB] at this
    exact this)
  have e6 : (fun j => if j = p then { (if p = p then sA p else ndSp 2 []) with u := { (if p = p then sA p else ndSp 2 []).u with b := layPg (if p = p then sA p else ndSp 2 []).u.b f (padF (fun _ => 1) 1) } } else if j = p then sA p else ndSp 2 []) = (fun j => if j = p then sB p else ndSp 2 []) := funext fun j => by
    by_cases e : j = p
    · rw [if_pos e, if_pos e, if_pos rfl, eB]; rfl
    · rw [if_neg e, if_neg e, if_neg e]
  have HSd := Lib.hid hsd
  rw [e6, HNB.out.2] at HSd
  have H5a := Lib.hid H5a
  clear hsd hsl ca hf hfr eB e6
  go_wp2_with fail
  with_reducible refine HNd5.out.mono ?_
  rintro e w4 ⟨rfl, hw⟩
  subst hw
  go_wp2_with fail
  with_reducible refine HSp5.out.mono ?_
  rintro e w4' ⟨rfl, hw⟩
  subst hw
  go_wp2_with fail
  with_reducible refine HSd.out.mono ?_
  rintro e w6 ⟨rfl, hT⟩
  obtain ⟨F6, H6⟩ := H5a.out.to hT
  have H6 := Lib.hid H6
  clear hT HNd5 HSp5 HSd
  -- the first check
  have HV6 : Hid (ckV (fun j => if j = p then sB p else ndSp 2 []) 3 = .tuple #[.int .i64 (-1), .string ⟨#[]⟩]) := Lib.hid (by
    have hv : ∀ (q : Nat) j, vB (if j = p then sB p else ndSp 2 []) q = true → j = q := fun q j hj => by
      by_cases e : j = p
      · rw [if_pos e, vB_of (hOk.out.rB q)] at hj
        by_cases e2 : (q : Int) = p
        · omega
        · rw [if_neg e2] at hj; cases hj
      · rw [if_neg e, sp0_no] at hj; cases hj
    unfold ckV
    rw [if_pos (ft_one (s := fun j => if j = p then sB p else ndSp 2 []) (by omega) (hv 0)).2.2.2, if_pos (ft_one (s := fun j => if j = p then sB p else ndSp 2 []) (by omega) (hv 1)).2.2.2])
  have HCk : Hid (Calls Tryz.prog 8 #[.pointer (some ⟨P.cb, 0, none⟩), .agg #[.int .i64 3, .int .i64 1, .int .i64 2, .int .i64 2, .int .i64 2, .int .i64 2, .int .i64 2, .int .i64 3, .int .i64 12]] w6 (RetW (.tuple #[.int .i64 (-1), .string ⟨#[]⟩]) fun w' => CL.Then w6 F6 P 3 3 (fun j => if j = p then sB p else ndSp 2 []) w')) := Lib.hid (by
    have := aCheck_any H6.out.cl (by omega) (by omega)
    rw [HV6.out] at this
    exact this)
  have b6 := (HBC.out _ H6.out.ch).cell
  have l6 := (HBC.out _ H6.out.ch).lt
  go_wp2_with fail
  with_reducible refine HCk.out.mono ?_
  rintro e w7 ⟨rfl, hT⟩
  obtain ⟨F7, H7⟩ := H6.out.to (by obtain ⟨F'', k1, k2, k3⟩ := hT; exact ⟨F'', k1, k2, k3⟩)
  have H7 := Lib.hid H7
  clear hT HCk b6 l6
  go_upto_region 11 with fail
  have HNd7 := Lib.hid (cNode_any H7.out.cl i HX.out.2.2.2.1)
  have HSp7 := Lib.hid (nSpace_any H7.out.cl i HX.out.2.2.2.1)
  obtain ⟨nbi, hnbi⟩ : ∃ b, P.nb i = b := ⟨_, rfl⟩
  obtain ⟨pbi, hpbi⟩ : ∃ b, P.pb i = b := ⟨_, rfl⟩
  have HNI := Lib.hid (And.intro hnbi hpbi)
  rw [hnbi] at HNd7 HSp7
  rw [hpbi] at HSp7
  clear hnbi hpbi
  by_cases hip : i = p
  · have hs := CLx.set (w := w7) (F := F) (s0 := fun _ => ndSp 2 []) H7.out.cl i HX.out.2.2.2.1 p r (by rw [if_pos hip]; exact hOk.out.oC) (by rw [if_pos hip]; exact hOk.out.kC.ok (by omega))
    have es : (fun j => if j = i then (setF (if i = p then sB p else ndSp 2 []) p r).2 else if j = p then sB p else ndSp 2 []) = (fun j => if j = p then sC p r else ndSp 2 []) := funext fun j => by
      by_cases e : j = i
      · rw [if_pos e, if_pos hip, if_pos (e.trans hip)]; rfl
      · rw [if_neg e, if_neg (fun e2 => e (e2.trans hip.symm)), if_neg (fun e2 => e (e2.trans hip.symm))]
    rw [es, HNI.out.2] at hs
    have HS7 := Lib.hid hs
    have HV8 : Hid (ckV (fun j => if j = p then sC p r else ndSp 2 []) 3 = .tuple #[.int .i64 (-1), .string ⟨#[]⟩]) := Lib.hid (by
      have hv : ∀ (q : Nat) j, vB (if j = p then sC p r else ndSp 2 []) q = true → j = q := fun q j hj => by
        by_cases e : j = p
        · rw [if_pos e, vB_of (hOk.out.rC q)] at hj
          by_cases e2 : (q : Int) = p
          · omega
          · rw [if_neg e2] at hj; cases hj
        · rw [if_neg e, sp0_no] at hj; cases hj
      unfold ckV
      rw [if_pos (ft_one (s := fun j => if j = p then sC p r else ndSp 2 []) (by omega) (hv 0)).2.2.2, if_pos (ft_one (s := fun j => if j = p then sC p r else ndSp 2 []) (by omega) (hv 1)).2.2.2])
    have q1 : ((i : Int) == p) = true := by rw [hip]; simp
    have q2 : (i == p) = true := by rw [hip]; simp
    have HIP := Lib.hid hip
    clear hip hs es
    go_wp2_with fail
    with_reducible refine HNd7.out.mono ?_
    rintro e w4 ⟨rfl, hw⟩
    subst hw
    go_wp2_with fail
    with_reducible refine HSp7.out.mono ?_
    rintro e w4' ⟨rfl, hw⟩
    subst hw
    go_wp2_with fail
    with_reducible refine HS7.out.mono ?_
    rintro e w8 ⟨rfl, hT⟩
    obtain ⟨F8, H8⟩ := H7.out.to hT
    have H8 := Lib.hid H8
    clear hT HNd7 HSp7 HS7
    have HCk : Hid (Calls Tryz.prog 8 #[.pointer (some ⟨P.cb, 0, none⟩), .agg #[.int .i64 3, .int .i64 1, .int .i64 2, .int .i64 2, .int .i64 2, .int .i64 2, .int .i64 2, .int .i64 3, .int .i64 12]] w8 (RetW (.tuple #[.int .i64 (-1), .string ⟨#[]⟩]) fun w' => CL.Then w8 F8 P 3 3 (fun j => if j = p then sC p r else ndSp 2 []) w')) := Lib.hid (by
      have := aCheck_any H8.out.cl (by omega) (by omega)
      rw [HV8.out] at this
      exact this)
    have b8 := (HBC.out _ H8.out.ch).cell
    have l8 := (HBC.out _ H8.out.ch).lt
    go_wp2_with fail
    with_reducible refine HCk.out.mono ?_
    rintro e w9 ⟨rfl, hT⟩
    obtain ⟨F9, H9⟩ := H8.out.to (by obtain ⟨F'', k1, k2, k3⟩ := hT; exact ⟨F'', k1, k2, k3⟩)
    have H9 := Lib.hid H9
    clear hT HCk b8 l8
    go_wp2_with fail
    go_ret
    exact ⟨rfl, HFin.out _ H9.out.ch⟩
  · have hs := CLx.set (w := w7) (F := F) (s0 := fun _ => ndSp 2 []) H7.out.cl i HX.out.2.2.2.1 p r (by rw [if_neg hip]; exact hOk.out.oD) (by rw [if_neg hip]; exact hOk.out.kD.ok (by omega))
    have es : (fun j => if j = i then (setF (if i = p then sB p else ndSp 2 []) p r).2 else if j = p then sB p else ndSp 2 []) = (S3 p i r) := funext fun j => by
      unfold S3
      by_cases e : j = i
      · rw [if_pos e, if_neg hip, if_pos e]; rfl
      · rw [if_neg e, if_neg e]
    rw [es, HNI.out.2] at hs
    have HS7 := Lib.hid hs
    have hvo : ∀ (q : Nat) j, (q : Int) ≠ p → vB (if j = i then sD p r else if j = p then sB p else ndSp 2 []) q = false := fun q j hq => by
      by_cases e : j = i
      · rw [if_pos e, vB_of (hOk.out.rD q), if_neg hq]; rfl
      · rw [if_neg e]
        by_cases e2 : j = p
        · rw [if_pos e2, vB_of (hOk.out.rB q), if_neg hq]; rfl
        · rw [if_neg e2, sp0_no]
    have hvp : vB (if p = i then sD p r else if p = p then sB p else ndSp 2 []) p = true := by
      rw [if_neg (fun e => hip e.symm), if_pos rfl, vB_of (hOk.out.rB p), if_pos rfl]; rfl
    have hwp : wB (if p = i then sD p r else if p = p then sB p else ndSp 2 []) p = true := by
      rw [if_neg (fun e => hip e.symm), if_pos rfl, wB_of (hOk.out.rB p), if_pos rfl]; rfl
    have hvi : vB (if i = i then sD p r else if i = p then sB p else ndSp 2 []) p = !((r : Int) == 0) := by
      rw [if_pos rfl, vB_of (hOk.out.rD p), if_pos rfl]
    have hvk : ∀ k, k ≠ p → k ≠ i → vB (if k = i then sD p r else if k = p then sB p else ndSp 2 []) p = false := fun k h1 h2 => by rw [if_neg h2, if_neg h1, sp0_no]
    have HIP := Lib.hid hip
    by_cases hr0 : r = 0
    · have HV8 : Hid (ckV (S3 p i r) 3 = .tuple #[.int .i64 (-1), .string ⟨#[]⟩]) := Lib.hid (by
        have hv : ∀ (q : Nat) j, vB (if j = i then sD p r else if j = p then sB p else ndSp 2 []) q = true → j = q := fun q j hj => by
          by_cases e2 : (q : Int) = p
          · have e2 : q = p := by omega
            subst e2
            by_cases e3 : j = q
            · exact e3
            · by_cases e4 : j = i
              · rw [e4, hvi, hr0] at hj; cases hj
              · rw [hvk j e3 e4] at hj; cases hj
          · rw [hvo q j e2] at hj; cases hj
        unfold ckV
        rw [if_pos (ft_one (s := S3 p i r) (by omega) (hv 0)).2.2.2, if_pos (ft_one (s := S3 p i r) (by omega) (hv 1)).2.2.2])
      have q1 : ((i : Int) == p) = false := beq_eq_false_iff_ne.2 (by omega)
      have q2 : (i == p) = false := beq_eq_false_iff_ne.2 hip
      have q3 : ((r : Int) == 0) = true := by rw [hr0]; rfl
      have q4 : (r == 0) = true := by rw [hr0]; rfl
      clear hip hs es hvo hvp hwp hvi hvk hr0
      go_wp2_with fail
      with_reducible refine HNd7.out.mono ?_
      rintro e w4 ⟨rfl, hw⟩
      subst hw
      go_wp2_with fail
      with_reducible refine HSp7.out.mono ?_
      rintro e w4' ⟨rfl, hw⟩
      subst hw
      go_wp2_with fail
      with_reducible refine HS7.out.mono ?_
      rintro e w8 ⟨rfl, hT⟩
      obtain ⟨F8, H8⟩ := H7.out.to hT
      have H8 := Lib.hid H8
      clear hT HNd7 HSp7 HS7
      have HCk : Hid (Calls Tryz.prog 8 #[.pointer (some ⟨P.cb, 0, none⟩), .agg #[.int .i64 3, .int .i64 1, .int .i64 2, .int .i64 2, .int .i64 2, .int .i64 2, .int .i64 2, .int .i64 3, .int .i64 12]] w8 (RetW (.tuple #[.int .i64 (-1), .string ⟨#[]⟩]) fun w' => CL.Then w8 F8 P 3 3 (S3 p i r) w')) := Lib.hid (by
        have := aCheck_any H8.out.cl (by omega) (by omega)
        rw [HV8.out] at this
        exact this)
      have b8 := (HBC.out _ H8.out.ch).cell
      have l8 := (HBC.out _ H8.out.ch).lt
      go_wp2_with fail
      with_reducible refine HCk.out.mono ?_
      rintro e w9 ⟨rfl, hT⟩
      obtain ⟨F9, H9⟩ := H8.out.to (by obtain ⟨F'', k1, k2, k3⟩ := hT; exact ⟨F'', k1, k2, k3⟩)
      have H9 := Lib.hid H9
      clear hT HCk b8 l8
      go_wp2_with fail
      go_ret
      exact ⟨rfl, HFin.out _ H9.out.ch⟩
    · have hrv : (!((r : Int) == 0)) = true := by rw [beq_eq_false_iff_ne.2 (by omega)]; rfl
      rw [hrv] at hvi
      have hTwo : Two (S3 p i r) p i := ⟨HX.out.2.1, HX.out.2.2.2.1, hip, hvp, hvi, hvk, fun k q hq => hvo q k (by omega)⟩
      have HV8 : Hid (ckV (S3 p i r) 3 = .tuple #[.int .i64 p, .string ⟨#[101, 120, 99, 108, 117, 115, 105, 118, 101]⟩]) := Lib.hid (hTwo.ft1 (.inl hwp))
      have q1 : ((i : Int) == p) = false := beq_eq_false_iff_ne.2 (by omega)
      have q2 : (i == p) = false := beq_eq_false_iff_ne.2 hip
      have q3 : ((r : Int) == 0) = false := beq_eq_false_iff_ne.2 (by omega)
      have q4 : (r == 0) = false := beq_eq_false_iff_ne.2 hr0
      -- what comes behind
      have hvo4 : ∀ (q : Nat) j, (q : Int) ≠ p → vB (if j = p then sC p 1 else if j = i then sD p r else ndSp 2 []) q = false := fun q j hq => by
        by_cases e : j = p
        · rw [if_pos e, vB_of (hOk1.out.rC q), if_neg hq]; rfl
        · rw [if_neg e]
          by_cases e2 : j = i
          · rw [if_pos e2, vB_of (hOk.out.rD q), if_neg hq]; rfl
          · rw [if_neg e2, sp0_no]
      have hvi4 : vB (if i = p then sC p 1 else if i = i then sD p r else ndSp 2 []) p = true := by
        rw [if_neg hip, if_pos rfl, vB_of (hOk.out.rD p), if_pos rfl]; exact hrv
      have hwi4 : wB (if i = p then sC p 1 else if i = i then sD p r else ndSp 2 []) p = ((r : Int) == 2) := by
        rw [if_neg hip, if_pos rfl, wB_of (hOk.out.rD p), if_pos rfl]
      have hvp4 : vB (if p = p then sC p 1 else if p = i then sD p r else ndSp 2 []) p = true := by
        rw [if_pos rfl, vB_of (hOk1.out.rC p), if_pos rfl]; rfl
      have hwp4 : wB (if p = p then sC p 1 else if p = i then sD p r else ndSp 2 []) p = false := by
        rw [if_pos rfl, wB_of (hOk1.out.rC p), if_pos rfl]; rfl
      have hTwo4 : Two (S4 p i r) p i := ⟨HX.out.2.1, HX.out.2.2.2.1, hip, hvp4, hvi4, fun k h1 h2 => by show vB (if k = p then _ else _) p = false; rw [if_neg h1, if_neg h2, sp0_no], fun k q hq => hvo4 q k (by omega)⟩
      have HEq : Hid (eqB (S4 p i r) 3 p = false) := Lib.hid (hTwo4.eq (by
        show dataF (if p = p then sC p 1 else _) p 0 = 1
        rw [if_pos rfl, hOk1.out.dC 0 (by omega)]
        rfl) (by
        show dataF (if i = p then _ else if i = i then sD p r else _) p 0 = 0
        rw [if_neg hip, if_pos rfl, hOk.out.dD 0 (by omega)]))
      have HMe : Hid (mB (S4 p i r) 3 p = false) := Lib.hid hTwo4.mem
      have hwi5 : wB (S4 p i r i) p = ((r : Int) == 2) := hwi4
      have hwp5 : wB (S4 p i r p) p = false := hwp4
      have HW := Lib.hid (And.intro hwi5 (And.intro hwp5 hTwo4))
      have HPI : Hid (S3 p i r p = sB p) := Lib.hid (by unfold S3; rw [if_neg (fun e => hip e.symm), if_pos rfl])
      have es4 : (fun j => if j = p then (setF (S3 p i r p) p 1).2 else S3 p i r j) = S4 p i r := funext fun j => by
        unfold S4
        by_cases e : j = p
        · rw [if_pos e, if_pos e, HPI.out]; rfl
        · rw [if_neg e, if_neg e]
          unfold S3
          by_cases e2 : j = i
          · rw [if_pos e2, if_pos e2]
          · rw [if_neg e2, if_neg e2, if_neg e]
      have HES := Lib.hid es4
      have HR := Lib.hid hr0
      clear hip hs es hvo hvp hwp hvi hvk hr0 hrv hTwo hvo4 hvi4 hwi4 hvp4 hwp4 hTwo4 es4 hwi5 hwp5
      go_wp2_with fail
      with_reducible refine HNd7.out.mono ?_
      rintro e w4 ⟨rfl, hw⟩
      subst hw
      go_wp2_with fail
      with_reducible refine HSp7.out.mono ?_
      rintro e w4' ⟨rfl, hw⟩
      subst hw
      go_wp2_with fail
      with_reducible refine HS7.out.mono ?_
      rintro e w8 ⟨rfl, hT⟩
      obtain ⟨F8, H8⟩ := H7.out.to hT
      have H8 := Lib.hid H8
      clear hT HNd7 HSp7 HS7
      have HCk : Hid (Calls Tryz.prog 8 #[.pointer (some ⟨P.cb, 0, none⟩), .agg #[.int .i64 3, .int .i64 1, .int .i64 2, .int .i64 2, .int .i64 2, .int .i64 2, .int .i64 2, .int .i64 3, .int .i64 12]] w8 (RetW (.tuple #[.int .i64 p, .string ⟨#[101, 120, 99, 108, 117, 115, 105, 118, 101]⟩]) fun w' => CL.Then w8 F8 P 3 3 (S3 p i r) w')) := Lib.hid (by
        have := aCheck_any H8.out.cl (by omega) (by omega)
        rw [HV8.out] at this
        exact this)
      have b8 := (HBC.out _ H8.out.ch).cell
      have l8 := (HBC.out _ H8.out.ch).lt
      go_wp2_with fail
      with_reducible refine HCk.out.mono ?_
      rintro e w9 ⟨rfl, hT⟩
      obtain ⟨F9, H9⟩ := H8.out.to (by obtain ⟨F'', k1, k2, k3⟩ := hT; exact ⟨F'', k1, k2, k3⟩)
      have H9 := Lib.hid H9
      clear hT HCk b8 l8
      go_upto_region 15 with fail
      have HNd9 := Lib.hid (cNode_any H9.out.cl p (by have := HX.out.2.1; omega))
      have HSp9 := Lib.hid (nSpace_any H9.out.cl p (by have := HX.out.2.1; omega))
      rw [HNB.out.1] at HNd9 HSp9
      rw [HNB.out.2] at HSp9
      have hs9 := CLx.set (w := w9) (F := F) (s0 := fun _ => ndSp 2 []) H9.out.cl p (by have := HX.out.2.1; omega) p 1 (by rw [HPI.out]; exact hOk1.out.oC) (by rw [HPI.out]; exact hOk1.out.kC.ok (by omega))
      rw [HES.out, HNB.out.2] at hs9
      have HS9 := Lib.hid hs9
      clear hs9
      go_wp2_with fail
      with_reducible refine HNd9.out.mono ?_
      rintro e wa ⟨rfl, hw⟩
      subst hw
      go_wp2_with fail
      with_reducible refine HSp9.out.mono ?_
      rintro e wa' ⟨rfl, hw⟩
      subst hw
      go_wp2_with fail
      with_reducible refine HS9.out.mono ?_
      rintro e wb ⟨rfl, hT⟩
      obtain ⟨Fb, Hb⟩ := H9.out.to hT
      have Hb := Lib.hid Hb
      clear hT HNd9 HSp9 HS9
      have b8 := (HBC.out _ Hb.out.ch).cell
      have l8 := (HBC.out _ Hb.out.ch).lt
      have hrr : r = 1 ∨ r = 2 := by have := HR.out; have := HX.out.2.2.2.2.2; omega
      rcases hrr with hrr | hrr
      · subst hrr
        have HVb : Hid (ckV (S4 p i (1 : Nat)) 3 = .tuple #[.int .i64 p, .string ⟨#[109, 101, 109, 98, 101, 114, 115]⟩]) := Lib.hid (HW.out.2.2.ft2 HW.out.2.1 (HW.out.1.trans rfl))
        have HCk : Hid (Calls Tryz.prog 8 #[.pointer (some ⟨P.cb, 0, none⟩), .agg #[.int .i64 3, .int .i64 1, .int .i64 2, .int .i64 2, .int .i64 2, .int .i64 2, .int .i64 2, .int .i64 3, .int .i64 12]] wb (RetW (.tuple #[.int .i64 p, .string ⟨#[109, 101, 109, 98, 101, 114, 115]⟩]) fun w' => CL.Then wb Fb P 3 3 (S4 p i (1 : Nat)) w')) := Lib.hid (by
          have := aCheck_any Hb.out.cl (by omega) (by omega)
          rw [HVb.out] at this
          exact this)
        go_wp2_with fail
        with_reducible refine HCk.out.mono ?_
        rintro e wc ⟨rfl, hT⟩
        obtain ⟨Fc, Hc⟩ := Hb.out.to (by obtain ⟨F'', k1, k2, k3⟩ := hT; exact ⟨F'', k1, k2, k3⟩)
        have Hc := Lib.hid Hc
        clear hT HCk b8 l8
        have HEc : Hid (Calls Tryz.prog 11 #[.pointer (some ⟨P.cb, 0, none⟩), .int .i64 p] wc (RetW (.bool false) fun w' => CL.Then wc Fc P 3 3 (S4 p i (1 : Nat)) w')) := Lib.hid (by
          have := equal_any Hc.out.cl p HX.out.2.1 (by omega) (by omega)
          rw [HEq.out] at this
          exact this)
        go_wp2_with fail
        with_reducible refine HEc.out.mono ?_
        rintro e wd ⟨rfl, hT⟩
        obtain ⟨Fd, Hd⟩ := Hc.out.to (by obtain ⟨F'', k1, k2, k3⟩ := hT; exact ⟨F'', k1, k2, k3⟩)
        have Hd := Lib.hid Hd
        have HMd : Hid (Calls Tryz.prog 10 #[.pointer (some ⟨P.cb, 0, none⟩), .int .i64 p] wd (RetW (.bool false) fun w' => CL.Then wd Fd P 3 3 (S4 p i (1 : Nat)) w')) := Lib.hid (by
          have := members_any Hd.out.cl p HX.out.2.1 (by omega) (by omega)
          rw [HMe.out] at this
          exact this)
        clear hT HEc
        go_wp2_with fail
        with_reducible refine HMd.out.mono ?_
        rintro e we ⟨rfl, hT⟩
        obtain ⟨Fe, He⟩ := Hd.out.to (by obtain ⟨F'', k1, k2, k3⟩ := hT; exact ⟨F'', k1, k2, k3⟩)
        have He := Lib.hid He
        clear hT HMd
        go_wp2_with fail
        go_ret
        exact ⟨rfl, HFin.out _ He.out.ch⟩
      · subst hrr
        have HVb : Hid (ckV (S4 p i (2 : Nat)) 3 = .tuple #[.int .i64 p, .string ⟨#[101, 120, 99, 108, 117, 115, 105, 118, 101]⟩]) := Lib.hid (HW.out.2.2.ft1 (.inr (HW.out.1.trans rfl)))
        have HCk : Hid (Calls Tryz.prog 8 #[.pointer (some ⟨P.cb, 0, none⟩), .agg #[.int .i64 3, .int .i64 1, .int .i64 2, .int .i64 2, .int .i64 2, .int .i64 2, .int .i64 2, .int .i64 3, .int .i64 12]] wb (RetW (.tuple #[.int .i64 p, .string ⟨#[101, 120, 99, 108, 117, 115, 105, 118, 101]⟩]) fun w' => CL.Then wb Fb P 3 3 (S4 p i (2 : Nat)) w')) := Lib.hid (by
          have := aCheck_any Hb.out.cl (by omega) (by omega)
          rw [HVb.out] at this
          exact this)
        go_wp2_with fail
        with_reducible refine HCk.out.mono ?_
        rintro e wc ⟨rfl, hT⟩
        obtain ⟨Fc, Hc⟩ := Hb.out.to (by obtain ⟨F'', k1, k2, k3⟩ := hT; exact ⟨F'', k1, k2, k3⟩)
        have Hc := Lib.hid Hc
        clear hT HCk b8 l8
        have HEc : Hid (Calls Tryz.prog 11 #[.pointer (some ⟨P.cb, 0, none⟩), .int .i64 p] wc (RetW (.bool false) fun w' => CL.Then wc Fc P 3 3 (S4 p i (2 : Nat)) w')) := Lib.hid (by
          have := equal_any Hc.out.cl p HX.out.2.1 (by omega) (by omega)
          rw [HEq.out] at this
          exact this)
        go_wp2_with fail
        with_reducible refine HEc.out.mono ?_
        rintro e wd ⟨rfl, hT⟩
        obtain ⟨Fd, Hd⟩ := Hc.out.to (by obtain ⟨F'', k1, k2, k3⟩ := hT; exact ⟨F'', k1, k2, k3⟩)
        have Hd := Lib.hid Hd
        have HMd : Hid (Calls Tryz.prog 10 #[.pointer (some ⟨P.cb, 0, none⟩), .int .i64 p] wd (RetW (.bool false) fun w' => CL.Then wd Fd P 3 3 (S4 p i (2 : Nat)) w')) := Lib.hid (by
          have := members_any Hd.out.cl p HX.out.2.1 (by omega) (by omega)
          rw [HMe.out] at this
          exact this)
        clear hT HEc
        go_wp2_with fail
        with_reducible refine HMd.out.mono ?_
        rintro e we ⟨rfl, hT⟩
        obtain ⟨Fe, He⟩ := Hd.out.to (by obtain ⟨F'', k1, k2, k3⟩ := hT; exact ⟨F'', k1, k2, k3⟩)
        have He := Lib.hid He
        clear hT HMd
        go_wp2_with fail
        go_ret
        exact ⟨rfl, HFin.out _ He.out.ch⟩
end Go.Proofs.YtleilfkcjollaaaGreat
