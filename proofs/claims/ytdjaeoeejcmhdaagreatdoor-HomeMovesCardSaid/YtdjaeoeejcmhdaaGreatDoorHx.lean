/- Homes that talk: a load and a store of a page that is here. No condition. Homes that talk: a page's right, as the space shows it. No condition. Homes that talk: a new space and its home. No condition. Homes that talk: all of them, side by side. No condition. -/
import Derived.Test.YtdjaeoeejcmhdaaGreatDoorHw
import Derived.Test.YtdjaeoeejcmhdaaGreatDoorGt
import Derived.Test.YtdjaeoeejcmhdaaGreatDoorGw
import Derived.Test.YtdjaeoeejcmhdaaGreatDoorHb
set_option linter.unusedVariables false
set_option linter.unusedSimpArgs false
namespace Go.Proofs.YtdjaeoeejcmhdaaGreatDoor
open Go.RowKit Go.RR
/-- What a load or a store leaves of a unit, but for bytes and buffer. -/
structure UStay (u u' : Mu) : Prop where
  fr : u'.fr = u.fr
  satp : u'.satp = u.satp
  mode : u'.mode = u.mode
theorem readF_stay (u : Mu) (va : Nat) (size a pick : Int) : UStay u (readF u va size a pick).2 := by
  unfold readF
  dsimp only
  split <;> exact ⟨rfl, rfl, rfl⟩
theorem storeF_stay (u : Mu) (va : Nat) (size : Int) (v : Nat) (pick : Int) : UStay u (storeF u va size v pick).2 := by
  unfold storeF
  dsimp only
  split <;> exact ⟨rfl, rfl, rfl⟩
theorem SpAt.unit {w w' : World} {L : Pl} {s : Spc} {u' : Mu} (h : SpAt w L s) (hu : MuAt w' (Grow L.SM w) L.SB L.ub L.mb L.bb u') (st : UStay s.u u') (c : Chg (fun k => L.SM k ∨ L.SB k) w w') :
    SpAt w' (L.grow w w') { s with u := u' } := by
  have nm : ∀ b, b ∈ L.names → ¬ (L.SM b ∨ L.SB b) := fun b hb e => by
    obtain ⟨-, h2, h3, -⟩ := h.ap.nm b hb
    rcases e with e | e
    · exact h2 e
    · exact h3 e
  have ht := h.tab
  have hT : TabAt w' (Grow L.SM w) L.mb s.u.fr L.sb L.mp L.tb s.root { s.tst with b := u'.b } :=
    ⟨st.fr ▸ hu.mem, ht.stk.chg c (nm _ (by simp [Pl.names])) (nm _ (by simp [Pl.names])), c.blk ht.tab (nm _ (by simp [Pl.names])), fun e => e.elim ht.n1 (fun e => by have := ht.stk.blk.lt; omega), fun e => e.elim ht.n2 (fun e => by have := ht.stk.map.lt; omega),
      fun e => e.elim ht.n3 (fun e => by have := ht.tab.lt; omega), ht.n4, ht.n5, ht.ok, ht.us, ht.fr⟩
  have hSC : ∀ k, L.SC k → ¬ (L.SM k ∨ L.SB k) := fun k hk e => by
    rcases e with e | e
    · exact (h.ap.mB k e).2 hk
    · exact h.ap.bC k e hk
  have := h.re c (nm _ (by simp [Pl.names])) (nm _ (by simp [Pl.names])) hSC hT hu.tlb (h.sh.chg c (nm _ (by simp [Pl.names]))) (h.ri.chg c (nm _ (by simp [Pl.names])))
  have e : u' = { s.u with b := u'.b, tlb := u'.tlb } := by
    obtain ⟨b, fr, tl, sa, md⟩ := u'
    have h1 := st.fr; have h2 := st.satp; have h3 := st.mode
    dsimp only at h1 h2 h3
    subst h1 h2 h3
    rfl
  rw [e]
  exact this
theorem ndv_unit {w w' : World} {F SH : Nat → Prop} {hb me n : Nat} {L : Pl} {s : Spc} {ps : List (Int × Nat × PgS)} {S : Nat → PgS} {C' : Nat → By} {u' : Mu} (hH : HmN w SH hb L.pb me n 0 2 ps) (hS : SpAt w L s) (hap : ∀ k, SH k → ¬ L.All k) (hF : ∀ k, SH k ∨ L.All k → F k) (hps : ∀ p : Nat, p < 2 → S p = pst ps me n p) (hlt : ∀ k, F k → k < w.heap.size)
    (hu : MuAt w' (Grow L.SM w) L.SB L.ub L.mb L.bb u') (st : UStay s.u u') (c : Chg (fun k => L.SM k ∨ L.SB k) w w') (hV : SV { s with u := u' } (fun p => (S p).right) C') (hby : ∀ p, ByOk (C' p)) :
    ∃ F' : Nat → Prop, NdV w' F' hb L.pb me n S C' ∧ (∀ k, F' k → F k ∨ w.heap.size ≤ k) ∧ Chg F w w' := by
  have hS' := hS.unit hu st c
  have hE := Ext.grow L w w'
  have hz := c.size
  have cA : ∀ k, L.SM k ∨ L.SB k → L.All k := fun k e => by
    rcases e with e | e
    · exact .inr (.inl e)
    · exact .inr (.inr (.inl e))
  refine ⟨fun k => SH k ∨ (L.grow w w').All k, ⟨⟨SH, L.grow w w', _, ps, hE.1, by rw [hE.1]; exact hH.chg c fun k hk e => hap k hk (cA k e), hS', hV, fun k hk e => ?_, fun _ => id, hps⟩, fun k hk => ?_, hby⟩, fun k hk => ?_, c.mono fun k _ e => hF k (.inr (cA k e))⟩
  · rcases hE.2.2 k e with e | e
    · exact hap k hk e
    · have := hlt k (hF k (.inl hk)); omega
  · rcases hk with hk | hk
    · have := hlt k (hF k (.inl hk)); omega
    · exact hS'.lt k hk
  · rcases hk with hk | hk
    · exact .inl (hF k (.inl hk))
    · exact (hE.2.2 k hk).imp (fun e => hF k (.inr e)) id
theorem ndv_store {w : World} {F : Nat → Prop} {hb spb me n : Nat} {S : Nat → PgS} {C : Nat → By} (h : NdV w F hb spb me n S C) (p o : Nat) (hp : p < 2) (ho : o < 4096) (h8 : o % 8 = 0) (hr : (S p).right = 2) (x : Nat) (hx : x < 18446744073709551616) (va : Nat) (hva : va = 1073741824 + p * 4096 + o) :
    ∃ ub : Nat, (∀ w', Chg NoB w w' → Calls Tryz.prog 8 #[.pointer (some ⟨spb, 0, none⟩)] w' (RetW (.pointer (some ⟨ub, 0, none⟩)) fun w'' => w'' = w')) ∧
      ∀ w', Chg NoB w w' → Calls Tryz.prog 9 #[.pointer (some ⟨ub, 0, none⟩), .int .u64 va, .int .i64 8, .int .u64 x, .int .i64 0] w' (RetW (.int .i64 (-1)) fun w'' => ∃ F' : Nat → Prop, NdV w'' F' hb spb me n S (updG C p (putW (C p) o 8 x)) ∧ (∀ k, F' k → F k ∨ w'.heap.size ≤ k) ∧ Chg F w' w'') := by
  obtain ⟨SH, L, s, ps, rfl, hH, hS, hV, hap, hF, hps⟩ := h.ex
  refine ⟨L.ub, fun w' c => sUnit_any (hS.chg0 c), fun w' c => ?_⟩
  obtain ⟨u', e1, hV'⟩ := hV.store hp ho h8 hr x
  refine (munit_store (hS.chg0 c).mu va 8 x 0 (by omega) hx (by decide) (by decide)).mono ?_
  rintro e w'' ⟨rfl, hm, k⟩
  have e1' : storeF s.u va 8 x 0 = (-1, u') := by rw [hva]; exact e1
  have st := storeF_stay s.u va 8 x 0
  have hm' : MuAt w'' (Grow L.SM w') L.SB L.ub L.mb L.bb (storeF s.u va 8 x 0).2 := hm
  rw [e1'] at st hm'
  refine ⟨by rw [show storeF s.u va ((8 : Nat) : Int) x 0 = (-1, u') from e1'], ?_⟩
  refine ndv_unit (hH.chg0 c) (hS.chg0 c) hap hF hps (fun k hk => Nat.lt_of_lt_of_le (h.lt k hk) c.size) hm' st k hV' fun q => ?_
  by_cases e : q = p
  · rw [e, updG_at]; exact putW_ok (h.by' p) _ _ _
  · rw [updG_ne _ _ e]; exact h.by' q
theorem ndv_load {w : World} {F : Nat → Prop} {hb spb me n : Nat} {S : Nat → PgS} {C : Nat → By} (h : NdV w F hb spb me n S C) (p o : Nat) (hp : p < 2) (ho : o < 4096) (h8 : o % 8 = 0) (hr : 1 ≤ (S p).right) (va : Nat) (hva : va = 1073741824 + p * 4096 + o) :
    ∃ ub : Nat, (∀ w', Chg NoB w w' → Calls Tryz.prog 8 #[.pointer (some ⟨spb, 0, none⟩)] w' (RetW (.pointer (some ⟨ub, 0, none⟩)) fun w'' => w'' = w')) ∧
      ∀ w', Chg NoB w w' → Calls Tryz.prog 10 #[.pointer (some ⟨ub, 0, none⟩), .int .u64 va, .int .i64 8, .int .i64 0] w' (RetW (.tuple #[.int .u64 (getW (C p) o 8 : Nat), .int .i64 (-1)]) fun w'' => ∃ F' : Nat → Prop, NdV w'' F' hb spb me n S C ∧ (∀ k, F' k → F k ∨ w'.heap.size ≤ k) ∧ Chg F w' w'') := by
  obtain ⟨SH, L, s, ps, rfl, hH, hS, hV, hap, hF, hps⟩ := h.ex
  refine ⟨L.ub, fun w' c => sUnit_any (hS.chg0 c), fun w' c => ?_⟩
  obtain ⟨u', e1, hV'⟩ := hV.load hp ho h8 hr
  refine (munit_load (hS.chg0 c).mu va 8 0 (by omega) (by decide) (by decide)).mono ?_
  rintro e w'' ⟨rfl, hm, k⟩
  have e1' : readF s.u va 8 1 0 = ((getW (C p) o 8, -1), u') := by rw [hva]; exact e1
  have st := readF_stay s.u va 8 1 0
  have hm' : MuAt w'' L.SM L.SB L.ub L.mb L.bb (readF s.u va 8 1 0).2 := hm
  rw [e1'] at st hm'
  obtain ⟨hm2, k2⟩ := MuAt.step (hS.chg0 c).mu hm' k (hm'.mem.mono fun _ _ e => .inl e) (Chg.refl L.SM w'')
  refine ⟨by rw [show readF s.u va ((8 : Nat) : Int) 1 0 = ((getW (C p) o 8, -1), u') from e1'], ?_⟩
  exact ndv_unit (hH.chg0 c) (hS.chg0 c) hap hF hps (fun k hk => Nat.lt_of_lt_of_le (h.lt k hk) c.size) hm2 st k2 hV' h.by'
end Go.Proofs.YtdjaeoeejcmhdaaGreatDoor
set_option linter.unusedVariables false
set_option linter.unusedSimpArgs false
namespace Go.Proofs.YtdjaeoeejcmhdaaGreatDoor
open Go.RowKit Go.RR
theorem ndv_right {w : World} {F : Nat → Prop} {hb spb me n : Nat} {S : Nat → PgS} {C : Nat → By} (h : NdV w F hb spb me n S C) (p : Nat) (hp : p < 2) :
    Calls Tryz.prog 14 #[.pointer (some ⟨spb, 0, none⟩), .int .i64 p] w (RetW (.int .i64 (S p).right) fun w' => w' = w) := by
  obtain ⟨SH, L, s, ps, rfl, hH, hS, hV, hap, hF, hps⟩ := h.ex
  have hl := right_run hS.ri (p : Int)
  rw [show rightOf s (p : Int) = (S p).right from hV.right p hp] at hl
  have f9 := hS.blk.cell' (i := 11) (v := .map (some L.rb)) rfl
  have fl := hS.blk.lt
  clear hH hS hV hap hF hps h
  go_enter Tryz.func14, Tryz.ntmps14
  go_wp2_with fail
  go_ret
  exact ⟨rfl, rfl⟩
end Go.Proofs.YtdjaeoeejcmhdaaGreatDoor
set_option linter.unusedVariables false
set_option linter.unusedSimpArgs false
namespace Go.Proofs.YtdjaeoeejcmhdaaGreatDoor
open Go.RowKit Go.RR
set_option maxHeartbeats 1000000 in
set_option maxRecDepth 100000 in
theorem sNeed24 (w : World) : Calls Tryz.prog 16 #[.agg #[.int .i64 1, .int .i64 0, .int .i64 2]] w (RetW (.int .i64 8) fun w' => Chg NoB w w') := by
  have HR := Lib.hid fun w' => shapeRight_any ⟨1, 0, 2⟩ w'
  have t1 : (⟨1, 0, 2⟩ : Shp).ok = true := rfl
  rw [t1] at HR
  clear t1
  have k0 : Chg NoB w (w.alloc (.cells #[.int .i64 1, .int .i64 0, .int .i64 2] 59)) := (Chg.refl NoB w).alloc _
  have hB := Lib.hid (Blk.new w #[.int .i64 1, .int .i64 0, .int .i64 2] 59)
  have K0 := Lib.hid k0
  clear k0
  go_enter Tryz.func16, Tryz.ntmps16
  go_wp2_with fail
  refine (HR.out _).mono ?_
  rintro e w1 ⟨rfl, C1⟩
  have hB := C1.blk0 hB.out
  have g := hB.cell
  have gl := hB.lt
  have HC := Lib.hid (K0.out.step C1)
  clear hB C1 HR
  go_wp2_with fail
  go_ret
  exact ⟨rfl, HC.out⟩
set_option maxHeartbeats 2000000 in
set_option maxRecDepth 100000 in
theorem homeNew24 {w : World} {L : Pl} {s : Spc} (h : SpAt w L s) (me n : Nat) (hn : 2 ≤ n) (hn2 : n ≤ 16) (hm : me < n) (hfr : 8 ≤ s.u.fr) :
    Calls Tryz.prog 17 #[.int .i64 me, .int .i64 n, .pointer (some ⟨L.pb, 0, none⟩), .agg #[.int .i64 1, .int .i64 0, .int .i64 2]] w
      (RetV fun v w' => ∃ (hb : Nat) (SH : Nat → Prop), v = .tuple #[.pointer (some ⟨hb, 0, none⟩), .int .i64 0] ∧ (∀ k, SH k → w.heap.size ≤ k ∧ k < w'.heap.size) ∧ HmN w' SH hb L.pb me n 0 2 [] ∧ Chg NoB w w') := by
  have HS := Lib.hid fun w' => sNeed24 w'
  have HF := Lib.hid fun w' (c : Chg NoB w w') => sFrames_any (h.chg0 c)
  obtain ⟨fr, hfr'⟩ : ∃ k, s.u.fr = k := ⟨_, rfl⟩
  rw [hfr'] at hfr HF
  have hm2 : (me : Int) < 16 := by omega
  have t1 : decide ((n : Int) < 2) = false := decide_eq_false (by omega)
  have t2 : decide ((16 : Int) < n) = false := decide_eq_false (by omega)
  have t3 : decide ((me : Int) < 0) = false := decide_eq_false (by omega)
  have t4 : decide ((n : Int) ≤ me) = false := decide_eq_false (by omega)
  have t5 : decide ((fr : Int) < 8) = false := decide_eq_false (by omega)
  have q2 : decide (n < 2) = false := decide_eq_false (by omega)
  have q3 : decide (16 < n) = false := decide_eq_false (by omega)
  have q4 : decide (n ≤ me) = false := decide_eq_false (by omega)
  have q5 : decide (fr < 8) = false := decide_eq_false (by omega)
  have hB := Lib.hid (Blk.new w #[.int .i64 1, .int .i64 0, .int .i64 2] 59)
  have hC := Lib.hid ((Chg.refl NoB w).alloc (.cells #[.int .i64 1, .int .i64 0, .int .i64 2] 59))
  have hmm := @run_makeMap Tryz.prog
  clear h hfr hfr' hn hn2 hm
  go_enter Tryz.func17, Tryz.ntmps17
  go_upto_region 1 with fail
  generalize w.alloc (.cells #[.int .i64 1, .int .i64 0, .int .i64 2] 59) = w0 at *
  have g := hB.out.ever
  have gl := hB.out.everL
  have HF0 := Lib.hid fun w' (c : Chg NoB w0 w') => HF.out w' (hC.out.step c)
  have c0 := Chg.refl NoB w0
  clear hmm
  go_upto_region 5 with fail
  go_region_held3 (fun w' => Chg NoB w0 w') ((repeat (first | with_reducible assumption | with_reducible apply Chg.drew | with_reducible apply Chg.drewN | with_reducible apply Chg.alloc))) (first | (go_at_call 42; (with_reducible refine (HF0.out _ (by with_reducible assumption)).mono ?_); rintro e w9 ⟨rfl, hw⟩; subst hw) | (go_at_call 16; (with_reducible refine (HS.out _).mono ?_); rintro e w9 ⟨rfl, hC'⟩; have c9 := Chg.step (by with_reducible assumption : Chg NoB w0 _) hC'; clear hC'))
  rename_i w9 c9 _
  have HC9 := Lib.hid (hC.out.step c9)
  have hmm := @run_makeMap Tryz.prog
  go_wp2_with fail
  go_ret2
  have hz := HC9.out.size
  have hm1 : (w9.alloc (.map #[] 0)).heap[w9.heap.size]? = some (.map #[] 0) := at_top rfl
  have hB1 := Blk.new (w9.alloc (.map #[] 0)) #[.int .i64 me, .int .i64 n, .pointer (some ⟨L.pb, 0, none⟩), .int .i64 1, .int .i64 0, .int .i64 2, .map (some w9.heap.size)] 68
  rw [World.size_alloc] at hB1
  refine ⟨_, rfl, _, fun k => k = w9.heap.size ∨ k = w9.heap.size + 1, rfl, fun k hk => ?_, ⟨.inr rfl, ⟨w9.heap.size, .inl rfl, hB1, MapAt.ofNew (at_alloc _ hm1), ⟨_, _, at_alloc _ hm1, MapKept.stamped_empty _⟩⟩, ⟨fun k => k, (fun p hp => by cases hp), (fun p hp => by cases hp)⟩, List.nodup_nil, (fun p hp => by cases hp), List.nodup_nil⟩, (HC9.out.alloc _).alloc _⟩
  rw [World.size_alloc, World.size_alloc]
  rcases hk with rfl | rfl <;> omega
theorem pst_nil (me n p : Nat) : pst [] me n p = pgNewF me ((p : Int) % n) := rfl
set_option maxHeartbeats 2000000 in
set_option maxRecDepth 100000 in
theorem made24 (me n : Nat) (hn : 2 ≤ n) (hn2 : n ≤ 16) (hm : me < n) (w : World) :
    Calls Tryz.prog 5 #[.int .i64 me, .int .i64 n, .int .i64 2] w
      (RetV fun v w' => ∃ (hb spb : Nat) (F : Nat → Prop), v = .tuple #[.pointer (some ⟨spb, 0, none⟩), .pointer (some ⟨hb, 0, none⟩), .int .i64 0] ∧ NdV w' F hb spb me n (fun p => pgNewF me ((p : Int) % n)) (fun _ _ => 0) ∧ (∀ k, F k → w.heap.size ≤ k) ∧ Chg NoB w w') := by
  obtain ⟨l1, l2, -⟩ := new_inv ⟨1, 0, 2⟩ 8 4 2 (by rfl) (by decide) (by decide)
  have HSN : Hid (∀ w', Calls Tryz.prog 15 #[.agg #[.int .i64 1, .int .i64 0, .int .i64 2], .int .i64 8, .int .i64 4, .int .i64 2] w' (RetV fun v w'' => ∃ L : Pl, v = .tuple #[.pointer (some ⟨L.pb, 0, none⟩), .int .i64 0] ∧ SpAt w'' L (newS ⟨1, 0, 2⟩ 8 4 2) ∧ (∀ k, L.All k → w'.heap.size ≤ k) ∧ Chg NoB w' w'')) := Lib.hid fun w' => spaceNew_any ⟨1, 0, 2⟩ 8 4 2 (by rfl) (by omega) (by omega) (by omega) (by omega) (by omega) (by omega) (by decide) l1 l2 w'
  clear l1 l2
  obtain ⟨s, hs⟩ : ∃ s, newS ⟨1, 0, 2⟩ 8 4 2 = s := ⟨_, rfl⟩
  have HV : Hid (SV s (fun _ => 0) (fun _ _ => 0)) := Lib.hid (by rw [← hs]; exact SV.start)
  have HFr : Hid (8 ≤ s.u.fr) := Lib.hid (by rw [← hs]; exact Nat.le_refl 8)
  rw [hs] at HSN
  clear hs
  have HNd := Lib.hid fun w' => sNeed24 w'
  have HP := Lib.hid (And.intro hn (And.intro hn2 hm))
  clear hn hn2 hm
  go_enter Tryz.func5, Tryz.ntmps5
  go_upto_region 2 with fail
  have g := (Blk.new w #[.int .i64 1, .int .i64 0, .int .i64 2] 59).ever
  have gl := (Blk.new w #[.int .i64 1, .int .i64 0, .int .i64 2] 59).everL
  have HC := Lib.hid ((Chg.refl NoB w).alloc (.cells #[.int .i64 1, .int .i64 0, .int .i64 2] 59))
  generalize w.alloc (.cells #[.int .i64 1, .int .i64 0, .int .i64 2] 59) = w0 at *
  obtain ⟨sb, hsb⟩ : ∃ b, w.heap.size = b := ⟨_, rfl⟩
  have HSB := Lib.hid hsb
  rw [hsb] at g gl
  simp only [hsb]
  clear hsb
  have c0 := Chg.refl NoB w0
  go_cut [10, 11] (fun s9 s10 wx => ∃ L : Pl, s9 = .pointer (some ⟨L.pb, 0, none⟩) ∧ s10 = .int .i64 0 ∧ SpAt wx L s ∧ (∀ k, L.All k → w0.heap.size ≤ k) ∧ Chg NoB w0 wx)
  case first =>
    go_region_held3 (fun w' => Chg NoB w0 w') ((repeat (first | with_reducible assumption | with_reducible apply Chg.drew | with_reducible apply Chg.drewN | with_reducible apply Chg.alloc))) (first | (go_at_call 16; (with_reducible refine (HNd.out _).mono ?_); rintro e w9 ⟨rfl, hC'⟩; have c9 := Chg.step (by with_reducible assumption : Chg NoB w0 _) hC'; clear hC') | (go_at_call 15; (with_reducible refine (HSN.out _).mono ?_); rintro e w9 ⟨v9, rfl, L, rfl, hSp, hLo, hC'⟩; have HLo := Lib.hid (fun k hk => Nat.le_trans (Chg.size (by with_reducible assumption : Chg NoB w0 _)) (hLo k hk)); have c9 := Chg.step (by with_reducible assumption : Chg NoB w0 _) hC'; have HSp := Lib.hid hSp; clear hC' hSp hLo))
    all_goals
      go_wp2_with fail
      go_meet
      exact ⟨L, rfl, rfl, HSp.out, HLo.out, by with_reducible assumption⟩
  case rest =>
  obtain ⟨L, rfl, rfl, hSp, hLo, C4⟩ := hcut
  rename World => w4
  have HH := Lib.hid (homeNew24 hSp me n HP.out.1 HP.out.2.1 HP.out.2.2 HFr.out)
  have HSp := Lib.hid hSp
  have HLo := Lib.hid hLo
  have HC4 := Lib.hid C4
  have g4 := g w4 C4
  have gl4 := gl w4 C4
  clear hSp hLo C4 g gl c0
  go_wp2_with fail
  with_reducible refine HH.out.mono ?_
  rintro e w5 ⟨v5, rfl, hb, SH, rfl, hSH, hHm, C5⟩
  have HX := Lib.hid (And.intro hSH (And.intro hHm C5))
  clear hSH hHm C5 g4 gl4
  go_wp2_with fail
  refine bodyPost_ret (v := .tuple #[.pointer (some ⟨L.pb, 0, none⟩), .pointer (some ⟨hb, 0, none⟩), .int .i64 0]) (by simp [results, Tryz.results5, go_sem]) rfl ?_
  obtain ⟨hSH, hHm, C5⟩ := HX.out
  have hz0 := HC.out.size
  have hz4 := HC4.out.size
  have hz5 := C5.size
  have hlt := HSp.out.lt
  refine ⟨_, rfl, hb, L.pb, fun k => SH k ∨ L.All k, rfl, ⟨⟨SH, L, s, [], rfl, hHm, HSp.out.chg0 C5, HV.out.congr (fun p hp => rfl) (fun p hp i hi => rfl), fun k h1 h2 => ?_, fun k hk => hk, fun p hp => (pst_nil me n p).symm⟩, fun k hk => ?_, fun p i => by show 0 < 256; decide⟩, fun k hk => ?_, (HC.out.step HC4.out).step C5⟩
  · have := hSH k h1
    have := hlt k h2
    omega
  · rcases hk with hk | hk
    · exact (hSH k hk).2
    · have := hlt k hk; omega
  · rcases hk with hk | hk
    · have := hSH k hk; omega
    · have := HLo.out k hk; omega
end Go.Proofs.YtdjaeoeejcmhdaaGreatDoor
set_option linter.unusedVariables false
set_option linter.unusedSimpArgs false
namespace Go.Proofs.YtdjaeoeejcmhdaaGreatDoor
open Go.RowKit Go.RR
/-- All blocks of all nodes. -/
def FAll (k : Nat) (F : Nat → Nat → Prop) (b : Nat) : Prop := ∃ i, i < k ∧ F i b
/-- All homes: what each node shows; they lie apart. -/
structure Hs24 (w : World) (k : Nat) (hb spb : Nat → Nat) (F : Nat → Nat → Prop) (G : Nat → Gs) : Prop where
  nd : ∀ i, i < k → NdV w (F i) (hb i) (spb i) i k (fun p => (G p).st i) (fun p => (G p).ct i)
  ap : ∀ i j, i < k → j < k → i ≠ j → ∀ b, F i b → ¬ F j b
theorem Hs24.lt {w : World} {k : Nat} {hb spb : Nat → Nat} {F : Nat → Nat → Prop} {G : Nat → Gs} (h : Hs24 w k hb spb F G) : ∀ b, FAll k F b → b < w.heap.size := fun b ⟨i, hi, hb⟩ => (h.nd i hi).lt b hb
theorem Hs24.chg {w w' : World} {k : Nat} {hb spb : Nat → Nat} {F : Nat → Nat → Prop} {G : Nat → Gs} {S' : Nat → Prop} (h : Hs24 w k hb spb F G) (c : Chg S' w w') (hs : ∀ b, FAll k F b → ¬ S' b) : Hs24 w' k hb spb F G :=
  ⟨fun i hi => (h.nd i hi).chg c fun b hb => hs b ⟨i, hi, hb⟩, h.ap⟩
theorem Hs24.chg0 {w w' : World} {k : Nat} {hb spb : Nat → Nat} {F : Nat → Nat → Prop} {G : Nat → Gs} (h : Hs24 w k hb spb F G) (c : Chg NoB w w') : Hs24 w' k hb spb F G := h.chg c fun _ _ => id
theorem Hs24.put {w w' : World} {k : Nat} {hb spb : Nat → Nat} {F : Nat → Nat → Prop} {G G' : Nat → Gs} (h : Hs24 w k hb spb F G) {i : Nat} (hi : i < k) {F' : Nat → Prop} (hN : NdV w' F' (hb i) (spb i) i k (fun p => (G' p).st i) (fun p => (G' p).ct i)) (hF : ∀ b, F' b → F i b ∨ w.heap.size ≤ b) (c : Chg (F i) w w')
    (hg : ∀ p j, j ≠ i → (G' p).st j = (G p).st j ∧ (G' p).ct j = (G p).ct j) :
    Hs24 w' k hb spb (updG F i F') G' ∧ (∀ b, FAll k (updG F i F') b → FAll k F b ∨ w.heap.size ≤ b) ∧ (∀ b, w.heap.size ≤ b → ¬ F' b → ¬ FAll k (updG F i F') b) := by
  have ho : ∀ j b, updG F i F' j b → (j = i ∧ F' b) ∨ (j ≠ i ∧ F j b) := fun j b hb => by
    by_cases e : j = i
    · rw [e, updG_at] at hb; exact .inl ⟨e, hb⟩
    · rw [updG_ne _ _ e] at hb; exact .inr ⟨e, hb⟩
  refine ⟨⟨fun j hj => ?_, fun j l hj hl hne b h1 h2 => ?_⟩, fun b hb => ?_, fun b hb hn hb2 => ?_⟩
  · by_cases e : j = i
    · rw [e, updG_at]; exact hN
    · rw [updG_ne _ _ e, show (fun p => (G' p).st j) = fun p => (G p).st j from funext fun p => (hg p j e).1, show (fun p => (G' p).ct j) = fun p => (G p).ct j from funext fun p => (hg p j e).2]
      exact (h.nd j hj).chg c fun b hb => fun e2 => h.ap j i hj hi e b hb e2
  · rcases ho j b h1 with ⟨e1, q1⟩ | ⟨e1, q1⟩ <;> rcases ho l b h2 with ⟨e2, q2⟩ | ⟨e2, q2⟩
    · exact hne (e1.trans e2.symm)
    · rcases hF b q1 with q | q
      · exact h.ap i l hi hl (fun e => e2 e.symm) b q q2
      · have := (h.nd l hl).lt b q2; omega
    · rcases hF b q2 with q | q
      · exact h.ap j i hj hi e1 b q1 q
      · have := (h.nd j hj).lt b q1; omega
    · exact h.ap j l hj hl hne b q1 q2
  · obtain ⟨j, hj, hb⟩ := hb
    rcases ho j b hb with ⟨e1, q1⟩ | ⟨e1, q1⟩
    · exact (hF b q1).imp (fun q => ⟨i, hi, q⟩) id
    · exact .inl ⟨j, hj, q1⟩
  · obtain ⟨j, hj, hb2⟩ := hb2
    rcases ho j b hb2 with ⟨e1, q1⟩ | ⟨e1, q1⟩
    · exact hn q1
    · have := (h.nd j hj).lt b q1; omega
/-- What a turn of node i at page p leaves, seen node by node. -/
theorem turn_view (G : Nat → Gs) (p i : Nat) (t : Trn) (d : Nat → Nat) :
    (fun q => (updG G p (turnG (G p) i t d).1 q).st i) = updG (fun q => (G q).st i) p t.s ∧
    (fun q => (updG G p (turnG (G p) i t d).1 q).ct i) = (if t.lay then updG (fun q => (G q).ct i) p d else fun q => (G q).ct i) ∧
    ∀ q j, j ≠ i → (updG G p (turnG (G p) i t d).1 q).st j = (G q).st j ∧ (updG G p (turnG (G p) i t d).1 q).ct j = (G q).ct j := by
  refine ⟨funext fun q => ?_, funext fun q => ?_, fun q j hj => ?_⟩
  · by_cases e : q = p
    · rw [e, updG_at, updG_at]; exact updG_at ..
    · rw [updG_ne _ _ e, updG_ne _ _ e]
  · by_cases e : q = p
    · rw [e, updG_at]
      unfold turnG
      dsimp only
      split
      · rw [updG_at, updG_at]
      · rfl
    · rw [updG_ne _ _ e]
      split
      · rw [updG_ne _ _ e]
      · rfl
  · by_cases e : q = p
    · rw [e, updG_at]
      refine ⟨updG_ne _ _ hj, ?_⟩
      unfold turnG
      dsimp only
      split
      · exact updG_ne _ _ hj
      · rfl
    · rw [updG_ne _ _ e]; exact ⟨rfl, rfl⟩
theorem DatW.form {w : World} {S : Nat → Prop} {v : Value} {o : Option By} (h : DatW w S v o) : ∃ dp dn dc, v = .slice dp dn dc := by
  cases o with
  | none => exact ⟨_, _, _, h⟩
  | some c => obtain ⟨⟨-, p, c', hv, -⟩, -⟩ := h; exact ⟨_, _, _, hv⟩
/-- What a node's call leaves of all. -/
def Hs24Post (w : World) (k : Nat) (hb spb : Nat → Nat) (F : Nat → Nat → Prop) (G' : Nat → Gs) (w' : World) : Prop :=
  ∃ F' : Nat → Nat → Prop, Hs24 w' k hb spb F' G' ∧ (∀ b, FAll k F' b → FAll k F b ∨ w.heap.size ≤ b) ∧ Chg (FAll k F) w w'
/-- .. and its posts. -/
def Hs24Posts (w : World) (k : Nat) (hb spb : Nat → Nat) (F : Nat → Nat → Prop) (G' : Nat → Gs) (p : Nat) (q : List Po) (r : Value) (w' : World) : Prop :=
  ∃ (F' : Nat → Nat → Prop) (SP : Nat → Prop), Hs24 w' k hb spb F' G' ∧ PosAt w' SP r p q ∧ (∀ b, FAll k F' b → FAll k F b ∨ w.heap.size ≤ b) ∧ (∀ b, SP b → w.heap.size ≤ b ∧ b < w'.heap.size ∧ ¬ FAll k F' b) ∧ Chg (FAll k F) w w'
theorem Hs24.posts {w w' : World} {k : Nat} {hb spb : Nat → Nat} {F : Nat → Nat → Prop} {G : Nat → Gs} (h : Hs24 w k hb spb F G) {i : Nat} (hi : i < k) {F' SP : Nat → Prop} {p : Nat} {t : Trn} {d : Nat → Nat} {r : Value} {S1 : Nat → PgS} {C1 : Nat → By} (hS1 : S1 = updG (fun q => (G q).st i) p t.s) (hC1 : C1 = if t.lay then updG (fun q => (G q).ct i) p d else fun q => (G q).ct i)
    (hN : NdV w' F' (hb i) (spb i) i k S1 C1) (hP : PosAt w' SP r p (turnG (G p) i t d).2) (hF : ∀ b, F' b → F i b ∨ w.heap.size ≤ b) (hSP : ∀ b, SP b → w.heap.size ≤ b ∧ b < w'.heap.size ∧ ¬ F' b) (c : Chg (F i) w w') :
    Hs24Posts w k hb spb F (updG G p (turnG (G p) i t d).1) p (turnG (G p) i t d).2 r w' := by
  obtain ⟨e1, e2, e3⟩ := turn_view G p i t d
  subst hS1 hC1
  rw [← e1, ← e2] at hN
  obtain ⟨a1, a2, a3⟩ := h.put hi hN hF c e3
  exact ⟨_, SP, a1, hP, a2, fun b hb => ⟨(hSP b hb).1, (hSP b hb).2.1, a3 b (hSP b hb).1 (hSP b hb).2.2⟩, c.mono fun b _ hb => ⟨i, hi, hb⟩⟩
/-- A message is taken. -/
theorem hs_take {w : World} {k : Nat} {hb spb : Nat → Nat} {F : Nat → Nat → Prop} {G : Nat → Gs} (h : Hs24 w k hb spb F G) (hk : 2 ≤ k) (hk5 : k ≤ 5) {p : Nat} (hp : p < 2) {x : Po} {l : List Po} (ok : OkP k (G p) x) (sm : SmG k (G p) (x :: l)) {SD : Nat → Prop} {v : Value} (hD : DatW w SD v x.data) (hSD : ∀ b, SD b → ¬ FAll k F b) (L : Tz24 w) (hDB : ¬ FAll k F 0) {i : Nat} (hx : x.dst = i) :
    Calls Tryz.prog 13 #[.pointer (some ⟨hb i, 0, none⟩), .agg #[.int .i64 x.m.kind, .int .i64 p, .int .i64 x.m.node, .int .i64 x.m.hops, .int .u16 x.m.set, v]] w (RetV fun r w' => Hs24Posts w k hb spb F (updG G p (stepG (G p) x).1) p (stepG (G p) x).2 r w') := by
  obtain ⟨dp, dn, dc, rfl⟩ := hD.form
  have hi : i < k := by have := ok.dst; omega
  have ei : x.dst.toNat = i := by rw [hx, Int.toNat_natCast]
  have kd := ok.kind
  rw [ei] at kd
  have hT := hTake24 (h.nd i hi) hk hk5 hi p hp x.m kd ok.node ok.hops (sm.2 x List.mem_cons_self) ok.set.2 (sm.1 i hi) x.data ok.data hD (fun b hb e => hSD b hb ⟨i, hi, e⟩) L (fun e => hDB ⟨i, hi, e⟩)
  refine hT.mono ?_
  rintro e w' ⟨r, rfl, F', SP, hN, hP, hF, hSP, c⟩
  refine ⟨r, rfl, ?_⟩
  unfold stepG
  rw [ei, hx]
  exact h.posts hi rfl rfl hN hP hF hSP c
theorem hs_fault1 {w : World} {k : Nat} {hb spb : Nat → Nat} {F : Nat → Nat → Prop} {G : Nat → Gs} (h : Hs24 w k hb spb F G) (hk : 2 ≤ k) (hk5 : k ≤ 5) {p o i : Nat} (hp : p < 2) (ho : o < 4096) {va : Nat} (hva : va = 1073741824 + 4096 * p + o) (hi : i < k) (hbz : ((G p).st i).busy = false) (hsm : Sm ((G p).st i)) (L : Tz24 w) (hDB : ¬ FAll k F 0) :
    Calls Tryz.prog 6 #[.pointer (some ⟨hb i, 0, none⟩), .int .u64 va, .int .i64 1] w (RetV fun v w' => ∃ r, v = .tuple #[r, .int .i64 p] ∧ Hs24Posts w k hb spb F (updG G p (turnG (G p) i (wantF i ((G p).st i) 1) noB).1) p (turnG (G p) i (wantF i ((G p).st i) 1) noB).2 r w') := by
  have hT := hFault1 (h.nd i hi) hk hk5 hi p o hp ho va hva hbz hsm L (fun e => hDB ⟨i, hi, e⟩)
  refine hT.mono ?_
  rintro e w' ⟨v, rfl, r, F', SP, rfl, hN, hP, hF, hSP, c⟩
  have hl : (wantF i ((G p).st i) 1).lay = false := want_lay
  refine ⟨_, rfl, r, rfl, h.posts hi rfl (by rw [hl]; rfl) hN ?_ hF hSP c⟩
  unfold turnG
  dsimp only
  rw [hl]
  exact hP
theorem hs_fault2 {w : World} {k : Nat} {hb spb : Nat → Nat} {F : Nat → Nat → Prop} {G : Nat → Gs} (h : Hs24 w k hb spb F G) (hk : 2 ≤ k) (hk5 : k ≤ 5) {p o i : Nat} (hp : p < 2) (ho : o < 4096) {va : Nat} (hva : va = 1073741824 + 4096 * p + o) (hi : i < k) (hbz : ((G p).st i).busy = false) (hsm : Sm ((G p).st i)) (L : Tz24 w) (hDB : ¬ FAll k F 0) :
    Calls Tryz.prog 6 #[.pointer (some ⟨hb i, 0, none⟩), .int .u64 va, .int .i64 2] w (RetV fun v w' => ∃ r, v = .tuple #[r, .int .i64 p] ∧ Hs24Posts w k hb spb F (updG G p (turnG (G p) i (wantF i ((G p).st i) 2) noB).1) p (turnG (G p) i (wantF i ((G p).st i) 2) noB).2 r w') := by
  have hT := hFault2 (h.nd i hi) hk hk5 hi p o hp ho va hva hbz hsm L (fun e => hDB ⟨i, hi, e⟩)
  refine hT.mono ?_
  rintro e w' ⟨v, rfl, r, F', SP, rfl, hN, hP, hF, hSP, c⟩
  have hl : (wantF i ((G p).st i) 2).lay = false := want_lay
  refine ⟨_, rfl, r, rfl, h.posts hi rfl (by rw [hl]; rfl) hN ?_ hF hSP c⟩
  unfold turnG
  dsimp only
  rw [hl]
  exact hP
theorem hs_done {w : World} {k : Nat} {hb spb : Nat → Nat} {F : Nat → Nat → Prop} {G : Nat → Gs} (h : Hs24 w k hb spb F G) (hk : 2 ≤ k) (hk5 : k ≤ 5) {p i : Nat} (hp : p < 2) (hi : i < k) (hf : ((G p).st i).forget < 0) (d : Nat → Nat) :
    Calls Tryz.prog 11 #[.pointer (some ⟨hb i, 0, none⟩), .int .i64 p] w (RetV fun r w' => Hs24Posts w k hb spb F (updG G p (turnG (G p) i (doneF i ((G p).st i)) d).1) p (turnG (G p) i (doneF i ((G p).st i)) d).2 r w') := by
  have hT := hDone24 (h.nd i hi) hk hk5 hi p hp hf
  refine hT.mono ?_
  rintro e w' ⟨r, rfl, F', SP, hN, hP, hF, hSP, c⟩
  have hl : (doneF i ((G p).st i)).lay = false := done_lay
  refine ⟨_, rfl, h.posts hi rfl (by rw [hl]; rfl) hN ?_ hF hSP c⟩
  unfold turnG
  dsimp only
  rw [hl]
  exact hP
/-- A store where the right is there. -/
theorem hs_store {w : World} {k : Nat} {hb spb : Nat → Nat} {F : Nat → Nat → Prop} {G : Nat → Gs} (h : Hs24 w k hb spb F G) {p o i : Nat} (hp : p < 2) (hi : i < k) (ho : o < 4096) (h8 : o % 8 = 0) (hr : ((G p).st i).right = 2) (x : Nat) (hx : x < 18446744073709551616) {va : Nat} (hva : va = 1073741824 + p * 4096 + o) :
    ∃ ub : Nat, (∀ w', Chg NoB w w' → Calls Tryz.prog 8 #[.pointer (some ⟨spb i, 0, none⟩)] w' (RetW (.pointer (some ⟨ub, 0, none⟩)) fun w'' => w'' = w')) ∧
      ∀ w', Chg NoB w w' → Calls Tryz.prog 9 #[.pointer (some ⟨ub, 0, none⟩), .int .u64 va, .int .i64 8, .int .u64 x, .int .i64 0] w' (RetW (.int .i64 (-1)) fun w'' => Hs24Post w' k hb spb F (updG G p ⟨(G p).st, updG (G p).ct i (putW ((G p).ct i) o 8 x)⟩) w'') := by
  obtain ⟨ub, h1, h2⟩ := ndv_store (h.nd i hi) p o hp ho h8 hr x hx va hva
  refine ⟨ub, h1, fun w' c => (h2 w' c).mono ?_⟩
  rintro e w'' ⟨rfl, F', hN, hF, c'⟩
  have e1 : (fun q => (updG G p ⟨(G p).st, updG (G p).ct i (putW ((G p).ct i) o 8 x)⟩ q).st i) = fun q => (G q).st i := funext fun q => by
    by_cases e : q = p
    · rw [e, updG_at]
    · rw [updG_ne _ _ e]
  have e2 : (fun q => (updG G p ⟨(G p).st, updG (G p).ct i (putW ((G p).ct i) o 8 x)⟩ q).ct i) = updG (fun q => (G q).ct i) p (putW ((G p).ct i) o 8 x) := funext fun q => by
    by_cases e : q = p
    · rw [e, updG_at, updG_at]; exact updG_at ..
    · rw [updG_ne _ _ e, updG_ne _ _ e]
  rw [← e1, ← e2] at hN
  obtain ⟨a1, a2, -⟩ := (h.chg0 c).put hi hN hF c' fun q j hj => by
    by_cases e : q = p
    · rw [e, updG_at]; exact ⟨rfl, updG_ne _ _ hj⟩
    · rw [updG_ne _ _ e]; exact ⟨rfl, rfl⟩
  exact ⟨rfl, _, a1, a2, c'.mono fun b _ hb => ⟨i, hi, hb⟩⟩
theorem hs_load {w : World} {k : Nat} {hb spb : Nat → Nat} {F : Nat → Nat → Prop} {G : Nat → Gs} (h : Hs24 w k hb spb F G) {p o i : Nat} (hp : p < 2) (hi : i < k) (ho : o < 4096) (h8 : o % 8 = 0) (hr : 1 ≤ ((G p).st i).right) {va : Nat} (hva : va = 1073741824 + p * 4096 + o) :
    ∃ ub : Nat, (∀ w', Chg NoB w w' → Calls Tryz.prog 8 #[.pointer (some ⟨spb i, 0, none⟩)] w' (RetW (.pointer (some ⟨ub, 0, none⟩)) fun w'' => w'' = w')) ∧
      ∀ w', Chg NoB w w' → Calls Tryz.prog 10 #[.pointer (some ⟨ub, 0, none⟩), .int .u64 va, .int .i64 8, .int .i64 0] w' (RetW (.tuple #[.int .u64 (getW ((G p).ct i) o 8 : Nat), .int .i64 (-1)]) fun w'' => Hs24Post w' k hb spb F G w'') := by
  obtain ⟨ub, h1, h2⟩ := ndv_load (h.nd i hi) p o hp ho h8 hr va hva
  refine ⟨ub, h1, fun w' c => (h2 w' c).mono ?_⟩
  rintro e w'' ⟨rfl, F', hN, hF, c'⟩
  obtain ⟨a1, a2, -⟩ := (h.chg0 c).put hi hN hF c' fun q j hj => ⟨rfl, rfl⟩
  exact ⟨rfl, _, a1, a2, c'.mono fun b _ hb => ⟨i, hi, hb⟩⟩
theorem hs_right {w : World} {k : Nat} {hb spb : Nat → Nat} {F : Nat → Nat → Prop} {G : Nat → Gs} (h : Hs24 w k hb spb F G) {p i : Nat} (hp : p < 2) (hi : i < k) :
    Calls Tryz.prog 14 #[.pointer (some ⟨spb i, 0, none⟩), .int .i64 p] w (RetW (.int .i64 ((G p).st i).right) fun w' => w' = w) := ndv_right (h.nd i hi) p hp
end Go.Proofs.YtdjaeoeejcmhdaaGreatDoor
