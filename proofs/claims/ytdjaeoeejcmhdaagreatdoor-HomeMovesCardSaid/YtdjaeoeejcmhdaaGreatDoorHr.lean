/- Homes that talk: bytes laid into a page, whether the space has had it or not. No condition. Messages that are right. No condition. Homes that talk: a turn is done: bytes are laid, letters become posts, the right is set. No condition. Homes that talk: a turn is done. No condition. -/
import Derived.Test.YtdjaeoeejcmhdaaGreatDoorHq
import Derived.Test.YtdjaeoeejcmhdaaGreatDoorHc
import Derived.Test.YtdjaeoeejcmhdaaGreatDoorGa
import Derived.Test.YtdjaeoeejcmhdaaGreatDoorHj
set_option linter.unusedVariables false
set_option linter.unusedSimpArgs false
namespace Go.Proofs.YtdjaeoeejcmhdaaGreatDoor
open Go.RowKit Go.RR
theorem frame24 {w : World} {L : Pl} {s : Spc} (h : SpAt w L s) (p : Int) (hr : frameOf s p = none → s.stk.next < s.stk.fin) {f : Nat} (hf : (frameF s p).1 = (f, 0)) :
    Calls Tryz.prog 85 #[.pointer (some ⟨L.pb, 0, none⟩), .int .i64 p] w (RetW (.tuple #[.int .i64 f, .int .i64 0]) fun w' => ∃ L' : Pl, L'.mb = L.mb ∧ Ext L L' w ∧ SpAt w' L' (frameF s p).2 ∧ Chg L.All w w') := by
  cases hq : frameOf s p with
  | some g =>
    have e := frameF_some hq
    rw [e] at hf ⊢
    obtain rfl : g = f := congrArg Prod.fst hf
    refine (frame_has h p g hq).mono ?_
    rintro e w' ⟨rfl, hw⟩
    subst hw
    exact ⟨rfl, L, rfl, Ext.refl L _, h, Chg.refl _ _⟩
  | none =>
    have := frame_new h p hq (hr hq)
    rw [hf] at this
    refine this.mono ?_
    rintro e w' ⟨rfl, h1, h2⟩
    exact ⟨rfl, L.grow w w', rfl, Ext.grow L w w', h1, h2⟩
set_option maxHeartbeats 1000000 in
set_option maxRecDepth 100000 in
theorem setData24 {w : World} {L : Pl} {s : Spc} (h : SpAt w L s) (p : Nat) (hp : (p : Int) < s.shape.shared) (hr : frameOf s p = none → s.stk.next < s.stk.fin) {f : Nat} (hf : (frameF s p).1 = (f, 0)) (hfo : frameOf (frameF s p).2 p = some f) (hfr : f < (frameF s p).2.u.fr) (v : Value) (n : Nat) (d : By) (Sd : Nat → Prop) (hd : ByOk d) (hs : Sl w Sd 1 v n (bcells d n)) (hap : ∀ k, Sd k → ¬ L.All k) (hn : n ≤ 4096) :
    Calls Tryz.prog 43 #[.pointer (some ⟨L.pb, 0, none⟩), .int .i64 p, v] w (RetW (.int .i64 0) fun w' => ∃ L' : Pl, Ext L L' w ∧ SpAt w' L' (layS s p (padF d n)) ∧ Chg L.All w w') := by
  obtain ⟨vp, vc, hvf⟩ := hs.form
  subst hvf
  have HT := Lib.hid (sThere_any h p (by omega) hp)
  have HF := Lib.hid (frame24 h p hr hf)
  have f3 := fun w' (c : Chg L.All w w') (L' : Pl) (e : L'.mb = L.mb) (e2 : L'.pb = L.pb) (s' : Spc) (h' : SpAt w' L' s') => (e ▸ e2 ▸ h'.blk.cell' (i := 3) (v := .pointer (some ⟨L'.mb, 0, none⟩)) rfl : w'.cell? ⟨L.pb, 3, none⟩ = some (.pointer (some ⟨L.mb, 0, none⟩)))
  have H3 := Lib.hid f3
  have t1 : decide ((4096 : Int) < n) = false := decide_eq_false (by omega)
  have t2 : decide (4096 < n) = false := decide_eq_false (by omega)
  have HS := Lib.hid (And.intro hs (And.intro hap (And.intro hn (And.intro hd (And.intro hfr hfo)))))
  have fl := h.blk.lt
  clear h hs hd hn hf hfr hp hap hfo hr f3
  go_enter Tryz.func43, Tryz.ntmps43
  go_wp2_with fail
  with_reducible refine HT.out.mono ?_
  rintro e w1 ⟨rfl, hw⟩
  subst hw
  go_wp2_with fail
  with_reducible refine HF.out.mono ?_
  rintro e w2 ⟨rfl, L1, hmb, hE, h1, hC⟩
  have f3 := H3.out w2 hC L1 hmb hE.1 _ h1
  have fl2 := Nat.lt_of_lt_of_le fl hC.size
  have HP := Lib.hid (setPage_any h1.mu.mem f HS.out.2.2.2.2.1 _ n d HS.out.2.2.2.1 (HS.out.1.chg hC fun k hk => HS.out.2.1 k hk) HS.out.2.2.1)
  rw [hmb] at HP
  have H := Lib.hid h1
  have HE := Lib.hid (And.intro hmb (And.intro hE hC))
  clear hmb hE h1 hC fl
  go_wp2_with fail
  with_reducible refine HP.out.mono ?_
  rintro e w3 ⟨rfl, hm, C3⟩
  have HR := Lib.hid (H.out.remem (HE.out.1 ▸ hm) C3)
  have HC3 := Lib.hid C3
  clear hm C3
  go_wp2_with fail
  go_ret
  refine ⟨rfl, L1.grow w2 w3, HE.out.2.1.trans (Ext.grow L1 w2 w3) HE.out.2.2.size, ?_, HE.out.2.1.chg HE.out.2.2 HR.out.2⟩
  have e : layS s p (padF d n) = { (frameF s p).2 with u := { (frameF s p).2.u with b := layPg (frameF s p).2.u.b f (padF d n) } } := by unfold layS; rw [HS.out.2.2.2.2.2]; rfl
  rw [e]
  exact HR.out.1
end Go.Proofs.YtdjaeoeejcmhdaaGreatDoor
set_option linter.unusedVariables false
set_option linter.unusedSimpArgs false
namespace Go.Proofs.YtdjaeoeejcmhdaaGreatDoor
open Go.RowKit Go.RR
set_option maxHeartbeats 400000 in
set_option maxRecDepth 100000 in
theorem carries_no (w : World) {k : Int} (h : k = 1 ∨ k = 2 ∨ k = 5 ∨ k = 6) : Calls Tryz.prog 114 #[.int .i64 k] w (RetW (.bool false) fun w' => w' = w) := by
  rcases h with rfl | rfl | rfl | rfl <;>
  · go_enter Tryz.func114, Tryz.ntmps114
    go_wp2_with fail
    go_ret
    exact ⟨rfl, rfl⟩
set_option maxHeartbeats 400000 in
set_option maxRecDepth 100000 in
theorem carries_yes (w : World) {k : Int} (h : k = 3 ∨ k = 4) : Calls Tryz.prog 114 #[.int .i64 k] w (RetW (.bool true) fun w' => w' = w) := by
  rcases h with rfl | rfl <;>
  · go_enter Tryz.func114, Tryz.ntmps114
    go_wp2_with fail
    go_ret
    exact ⟨rfl, rfl⟩
set_option maxHeartbeats 1000000 in
set_option maxRecDepth 100000 in
theorem mdata_no {w : World} {k num node hops : Int} {sm : Nat} (h : k = 1 ∨ k = 2 ∨ k = 5 ∨ k = 6) : Calls Tryz.prog 73 #[.agg #[.int .i64 k, .int .i64 num, .int .i64 node, .int .i64 hops, .int .u16 sm, .slice none 0 0]] w (RetW (.bool true) fun w' => Chg NoB w w') := by
  have HC := Lib.hid fun w' => carries_no w' h
  have HB := Blk.new w #[.int .i64 k, .int .i64 num, .int .i64 node, .int .i64 hops, .int .u16 sm, .slice none 0 0] 52
  have c0 := (Chg.refl NoB w).alloc (.cells #[.int .i64 k, .int .i64 num, .int .i64 node, .int .i64 hops, .int .u16 sm, .slice none 0 0] 52)
  have H0 := Lib.hid c0
  clear h
  go_enter Tryz.func73, Tryz.ntmps73
  go_wp2_with fail
  generalize w.alloc (.cells #[.int .i64 k, .int .i64 num, .int .i64 node, .int .i64 hops, .int .u16 sm, .slice none 0 0] 52) = w0 at *
  generalize w.heap.size = mb at *
  refine (HC.out _).mono ?_
  rintro e w1 ⟨rfl, hw⟩
  subst hw
  have g := HB.cell
  have gl := HB.lt
  clear c0
  go_wp2_with fail
  go_ret
  exact ⟨rfl, H0.out⟩
set_option maxHeartbeats 1000000 in
set_option maxRecDepth 100000 in
theorem mdata_yes {w : World} {S : Nat → Prop} {k num node hops : Int} {sm : Nat} {p : Option Addr} {c n : Nat} {d : By} (h : k = 3 ∨ k = 4) (hs : Sl w S 1 (.slice p n c) n (bcells d n)) (hn : n ≤ 4096) (hl : 0 < n → d (n - 1) ≠ 0) : Calls Tryz.prog 73 #[.agg #[.int .i64 k, .int .i64 num, .int .i64 node, .int .i64 hops, .int .u16 sm, .slice p n c]] w (RetW (.bool true) fun w' => Chg NoB w w') := by
  have HC := Lib.hid fun w' => carries_yes w' h
  have HB := Blk.new w #[.int .i64 k, .int .i64 num, .int .i64 node, .int .i64 hops, .int .u16 sm, .slice p n c] 52
  have c0 := (Chg.refl NoB w).alloc (.cells #[.int .i64 k, .int .i64 num, .int .i64 node, .int .i64 hops, .int .u16 sm, .slice p n c] 52)
  have H0 := Lib.hid c0
  have hs0 := hs.chg0 c0
  have t1 : decide ((n : Int) ≤ 4096) = true := decide_eq_true (by omega)
  have t2 : decide (n ≤ 4096) = true := decide_eq_true hn
  clear h hs
  go_enter Tryz.func73, Tryz.ntmps73
  go_wp2_with fail
  generalize w.alloc (.cells #[.int .i64 k, .int .i64 num, .int .i64 node, .int .i64 hops, .int .u16 sm, .slice p n c] 52) = w0 at *
  generalize w.heap.size = mb at *
  refine (HC.out _).mono ?_
  rintro e w1 ⟨rfl, hw⟩
  subst hw
  have g := HB.cell
  have gl := HB.lt
  clear c0
  obtain ⟨-, p', c', hv, hnc, hc⟩ := hs0
  cases hv
  cases n with
  | zero =>
    clear hc hl t1 t2 hn
    go_wp2_with fail
    go_ret
    exact ⟨rfl, H0.out⟩
  | succ m =>
    obtain ⟨b, off, rfl, -, hgl, hcell⟩ := hc (by omega)
    have x0 := hcell m _ (bcells_get (by omega))
    have hz := hl (by omega)
    rw [Nat.add_sub_cancel] at hz
    have z1 : ((d m : Int) == 0) = false := beq_eq_false_iff_ne.2 (by omega)
    have z2 : (d m == 0) = false := beq_eq_false_iff_ne.2 hz
    have z3 : ((d m : Int) != 0) = true := by rw [bne, z1]; rfl
    have z4 : (d m != 0) = true := by rw [bne, z2]; rfl
    have e1 : IntKind.i64.wrap (m : Int) = m := IntWalk.i64_in _ (by omega)
    have e2 : wrap64 (m : Int) = m := IntWalk.wrap64_in _ (by omega)
    have q1 : ((m : Int) + 1 == 0) = false := beq_eq_false_iff_ne.2 (by omega)
    have q2 : (m + 1 == 0) = false := beq_eq_false_iff_ne.2 (by omega)
    have q3 : decide ((m : Int) + 1 ≤ 4096) = true := decide_eq_true (by omega)
    have q4 : decide (m + 1 ≤ 4096) = true := decide_eq_true hn
    have i1 : (0 : Int) ≤ (m : Int) := by omega
    have i2 : (m : Int) < (m : Int) + 1 := by omega
    have i3 : ((m : Int)).toNat = m := Int.toNat_natCast m
    clear hcell hc hl hz hn
    go_wp2_with fail
    go_ret
    exact ⟨rfl, H0.out⟩
def RightM (m : Mg) (num : Int) : Prop := 1 ≤ m.kind ∧ m.kind ≤ 6 ∧ 0 ≤ num ∧ num < 65536 ∧ 0 ≤ m.node ∧ m.node < 16 ∧ 0 ≤ m.hops ∧ m.hops ≤ 255 ∧ (m.kind ≠ 4 → m.set = 0)
set_option maxHeartbeats 1000000 in
set_option maxRecDepth 100000 in
theorem mright_any {w : World} {m : Mg} {num : Int} {dv : Value} (h : RightM m num)
    (HD : ∀ w', Chg NoB w w' → Calls Tryz.prog 73 #[.agg #[.int .i64 m.kind, .int .i64 num, .int .i64 m.node, .int .i64 m.hops, .int .u16 m.set, dv]] w' (RetW (.bool true) fun w2 => Chg NoB w' w2)) (hf : ∃ p n c, dv = .slice p n c) :
    Calls Tryz.prog 29 #[.agg #[.int .i64 m.kind, .int .i64 num, .int .i64 m.node, .int .i64 m.hops, .int .u16 m.set, dv]] w (RetW (.bool true) fun w' => Chg NoB w w') := by
  obtain ⟨k, node, hops, sm⟩ := m
  obtain ⟨p, n, c, rfl⟩ := hf
  obtain ⟨h1, h2, h3, h4, h5, h6, h7, h8, h9⟩ := h
  dsimp only at h1 h2 h5 h6 h7 h8 h9 HD ⊢
  have c0 := (Chg.refl NoB w).alloc (.cells #[.int .i64 k, .int .i64 num, .int .i64 node, .int .i64 hops, .int .u16 sm, .slice p n c] 52)
  have HB := Blk.new w #[.int .i64 k, .int .i64 num, .int .i64 node, .int .i64 hops, .int .u16 sm, .slice p n c] 52
  have HD := Lib.hid HD
  have H0 := Lib.hid c0
  have t1 : decide (k < 1) = false := decide_eq_false (by omega)
  have t2 : decide (6 < k) = false := decide_eq_false (by omega)
  have t3 : decide (num < 0) = false := decide_eq_false (by omega)
  have t4 : decide (65536 ≤ num) = false := decide_eq_false (by omega)
  have t5 : decide (node < 0) = false := decide_eq_false (by omega)
  have t6 : decide (16 ≤ node) = false := decide_eq_false (by omega)
  have t7 : decide (hops < 0) = false := decide_eq_false (by omega)
  have t8 : decide (255 < hops) = false := decide_eq_false (by omega)
  by_cases hz : sm = 0
  · have z1 : ((sm : Int) == 0) = true := by rw [hz]; rfl
    have z2 : (sm == 0) = true := by rw [hz]; rfl
    have z3 : ((sm : Int) != 0) = false := by rw [hz]; rfl
    have z4 : (sm != 0) = false := by rw [hz]; rfl
    clear h1 h2 h3 h4 h5 h6 h7 h8 h9 c0 hz
    go_enter Tryz.func29, Tryz.ntmps29
    go_upto_region 1 with fail
    generalize w.alloc (.cells #[.int .i64 k, .int .i64 num, .int .i64 node, .int .i64 hops, .int .u16 sm, .slice p n c] 52) = w0 at *
    generalize w.heap.size = mb at *
    have g := HB.cell
    have gl := HB.lt
    go_wp2_with fail
    with_reducible refine (HD.out _ H0.out).mono ?_
    rintro e w1 ⟨rfl, c1⟩
    have H1 := Lib.hid (H0.out.step c1)
    clear c1 g gl
    go_wp2_with fail
    go_ret
    exact ⟨rfl, H1.out⟩
  · have hk : k = 4 := by
      by_cases hk : k = 4
      · exact hk
      · exact absurd (h9 hk) hz
    subst hk
    have z1 : ((sm : Int) == 0) = false := beq_eq_false_iff_ne.2 (by omega)
    have z2 : (sm == 0) = false := beq_eq_false_iff_ne.2 hz
    have z3 : ((sm : Int) != 0) = true := by rw [bne, z1]; rfl
    have z4 : (sm != 0) = true := by rw [bne, z2]; rfl
    clear h1 h2 h3 h4 h5 h6 h7 h8 h9 c0 hz t1 t2
    go_enter Tryz.func29, Tryz.ntmps29
    go_upto_region 1 with fail
    generalize w.alloc (.cells #[.int .i64 4, .int .i64 num, .int .i64 node, .int .i64 hops, .int .u16 sm, .slice p n c] 52) = w0 at *
    generalize w.heap.size = mb at *
    have g := HB.cell
    have gl := HB.lt
    go_wp2_with fail
    with_reducible refine (HD.out _ H0.out).mono ?_
    rintro e w1 ⟨rfl, c1⟩
    have H1 := Lib.hid (H0.out.step c1)
    clear c1 g gl
    go_wp2_with fail
    go_ret
    exact ⟨rfl, H1.out⟩
end Go.Proofs.YtdjaeoeejcmhdaaGreatDoor
set_option linter.unusedVariables false
set_option linter.unusedSimpArgs false
namespace Go.Proofs.YtdjaeoeejcmhdaaGreatDoor
open Go.RowKit Go.RR
/-- Bytes that go along, or none. -/
def DatW (w : World) (S : Nat → Prop) (v : Value) : Option By → Prop
  | none => v = .slice none 0 0
  | some c => Sl w S 1 v (trimN c 4096) (bcells c (trimN c 4096)) ∧ ByOk c
theorem DatW.chg {w w' : World} {S S' : Nat → Prop} {v : Value} {o : Option By} (h : DatW w S v o) (c : Chg S' w w') (hs : ∀ k, S k → ¬ S' k) : DatW w' S v o := by
  cases o with
  | none => exact h
  | some d => exact ⟨h.1.chg c hs, h.2⟩
theorem DatW.mono {w : World} {S S' : Nat → Prop} {v : Value} {o : Option By} (h : DatW w S v o) (hs : ∀ k, S k → S' k) : DatW w S' v o := by
  cases o with
  | none => exact h
  | some d => exact ⟨h.1.mono hs, h.2⟩
def poC (num : Int) (x : Po × Value) : List Value := [.int .i64 x.1.dst, .int .i64 x.1.m.kind, .int .i64 num, .int .i64 x.1.m.node, .int .i64 x.1.m.hops, .int .u16 x.1.m.set, x.2]
def posC (num : Int) (l : List (Po × Value)) : List Value := l.flatMap (poC num)
theorem posC_len (num : Int) (l : List (Po × Value)) : (posC num l).length = l.length * 7 := by
  induction l with
  | nil => rfl
  | cons l ls ih => unfold posC at ih ⊢; rw [List.flatMap_cons, List.length_append, ih, List.length_cons]; simp [poC]; omega
theorem posC_snoc (num : Int) (l : List (Po × Value)) (x : Po × Value) : posC num (l ++ [x]) = posC num l ++ poC num x := by unfold posC; rw [List.flatMap_append]; simp
/-- Posts: to whom, what, bytes. -/
structure PosAt (w : World) (S : Nat → Prop) (v : Value) (num : Int) (q : List Po) : Prop where
  ex : ∃ l : List (Po × Value), l.map (·.1) = q ∧ Sl w S 7 v l.length (posC num l) ∧ ∀ x ∈ l, DatW w S x.2 x.1.data
theorem PosAt.chg {w w' : World} {S S' : Nat → Prop} {v : Value} {num : Int} {q : List Po} (h : PosAt w S v num q) (c : Chg S' w w') (hs : ∀ k, S k → ¬ S' k) : PosAt w' S v num q := by
  obtain ⟨l, h1, h2, h3⟩ := h.ex
  exact ⟨l, h1, h2.chg c hs, fun x hx => (h3 x hx).chg c hs⟩
theorem PosAt.mono {w : World} {S S' : Nat → Prop} {v : Value} {num : Int} {q : List Po} (h : PosAt w S v num q) (hs : ∀ k, S k → S' k) : PosAt w S' v num q := by
  obtain ⟨l, h1, h2, h3⟩ := h.ex
  exact ⟨l, h1, h2.mono hs, fun x hx => (h3 x hx).mono hs⟩
theorem POSTi : (Tryz.prog.info? 54).map (fun i => (i.zero, i.size, i.bytes)) = some (some (.agg #[.int .i64 0, .int .i64 0, .int .i64 0, .int .i64 0, .int .i64 0, .int .u16 0, .slice none 0 0]), 7, 72) := by kernel_rfl
end Go.Proofs.YtdjaeoeejcmhdaaGreatDoor
set_option linter.unusedVariables false
set_option linter.unusedSimpArgs false
namespace Go.Proofs.YtdjaeoeejcmhdaaGreatDoor
open Go.RowKit Go.RR
/-- The posts so far. -/
def PoR (w1 : World) (num : Nat) (ct : By) (ls : List Lt) (i : Nat) (ov : Value) (wr : World) : Prop :=
  ∃ (l : List (Po × Value)) (SO SD : Nat → Prop), l.map (·.1) = (ls.take i).map (poOf ct) ∧ Own wr SO 54 7 ov l.length (posC num l) ∧ (∀ x ∈ l, DatW wr SD x.2 x.1.data) ∧ (∀ k, SO k → w1.heap.size ≤ k ∧ ¬ SD k) ∧ (∀ k, SD k → w1.heap.size ≤ k ∧ k < wr.heap.size) ∧ Chg NoB w1 wr
theorem PoR.start (w1 : World) (num : Nat) (ct : By) (ls : List Lt) : PoR w1 num ct ls 0 (.slice none 0 0) w1 :=
  ⟨[], fun _ => False, fun _ => False, by simp, Own.nil _ _ _ _, fun x hx => absurd hx List.not_mem_nil, fun _ h => h.elim, fun _ h => h.elim, Chg.refl _ _⟩
theorem PoR.len {w1 wr : World} {num i : Nat} {ct : By} {ls : List Lt} {ov : Value} (h : PoR w1 num ct ls i ov wr) (hi : i ≤ ls.length) : ∃ us : List Value, ∃ SO, Own wr SO 54 7 ov i us := by
  obtain ⟨l, SO, SD, h1, h2, -⟩ := h
  have hl : l.length = i := by
    have := congrArg List.length h1
    rw [List.length_map, List.length_map, List.length_take] at this
    omega
  rw [hl] at h2
  exact ⟨_, SO, h2⟩
/-- One more post: behind an append. -/
theorem por_next {w1 wr wd wa w' : World} {num i : Nat} {ct : By} {ls : List Lt} {ov v' dv : Value} {x : Lt} {SDn : Nat → Prop} {l : List (Po × Value)} {SO SD : Nat → Prop} (h1 : l.map (·.1) = (ls.take i).map (poOf ct)) (h2 : Own wr SO 54 7 ov l.length (posC num l)) (h3 : ∀ x ∈ l, DatW wr SD x.2 x.1.data) (h4 : ∀ k, SO k → w1.heap.size ≤ k ∧ ¬ SD k) (h5 : ∀ k, SD k → w1.heap.size ≤ k ∧ k < wr.heap.size) (h6 : Chg NoB w1 wr)
    (hx : ls[i]? = some x) (c : Chg NoB wr wd) (hd : DatW wd SDn dv (if x.pg then some ct else none)) (hSDn : ∀ k, SDn k → wr.heap.size ≤ k ∧ k < wd.heap.size) (ca : Chg NoB wd wa) {B : Nat}
    (ho2 : Own w' (fun k => ov.ownBlock = some k ∨ k = B) 54 7 v' (l.length + 1) (posC num l ++ poC num (poOf ct x, dv))) (hB : wa.heap.size = B) (g : wa.grownBy w' ov.ownBlock) : PoR w1 num ct ls (i + 1) v' w' := by
  subst hB
  have hob := h2.ownBlock
  have cw := c.step ca
  have cg : Chg (fun k => ov.ownBlock = some k) wa w' := (Chg.refl _ _).grown g fun k hk => .inl hk
  have hsz := h6.size
  have e : (l ++ [(poOf ct x, dv)]).map (·.1) = (ls.take (i + 1)).map (poOf ct) := by
    rw [List.map_append, h1, List.take_add_one, hx, List.map_append]
    rfl
  refine ⟨l ++ [(poOf ct x, dv)], fun k => ov.ownBlock = some k ∨ k = wa.heap.size, fun k => SD k ∨ SDn k, e, ?_, fun y hy => ?_, fun k hk => ?_, fun k hk => ?_, ?_⟩
  · rw [posC_snoc, List.length_append]
    exact ho2
  · rcases List.mem_append.1 hy with hy | hy
    · refine ((((h3 y hy).chg cw fun _ _ => id).chg cg fun k hk e => ?_)).mono fun k hk => .inl hk
      exact (h4 k (hob k e).1).2 hk
    · rw [List.mem_singleton] at hy
      subst hy
      refine ((hd.chg ca fun _ _ => id).chg cg fun k hk e => ?_).mono fun k hk => .inr hk
      have := (hob k e).2
      have := (hSDn k hk).1
      omega
  · rcases hk with hk | rfl
    · have q := hob k hk
      refine ⟨(h4 k q.1).1, fun e => ?_⟩
      rcases e with e | e
      · exact (h4 k q.1).2 e
      · have := (hSDn k e).1; omega
    · have := cw.size
      refine ⟨by omega, fun e => ?_⟩
      rcases e with e | e
      · have := (h5 _ e).2; omega
      · have := (hSDn _ e).2; have := ca.size; omega
  · have := cw.size
    have := cg.size
    rcases hk with hk | hk
    · have := h5 k hk; omega
    · have := hSDn k hk; have := ca.size; omega
  · exact (h6.step cw).grown g fun k hk => .inr ((h4 k (hob k hk).1).1)
end Go.Proofs.YtdjaeoeejcmhdaaGreatDoor
