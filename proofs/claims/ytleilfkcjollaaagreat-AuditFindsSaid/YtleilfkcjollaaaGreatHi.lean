/- The audit: what is seen of a page at a node. No condition. The audit: owners, exclusive, members. No condition. The audit: members, equal bytes. No condition. -/
import Derived.Test.YtleilfkcjollaaaGreatHh
import Derived.Test.YtleilfkcjollaaaGreatHa
import Derived.Test.YtleilfkcjollaaaGreatGd
set_option linter.unusedVariables false
set_option linter.unusedSimpArgs false
namespace Go.Proofs.YtleilfkcjollaaaGreat
open Go.RowKit Go.RR
set_option maxHeartbeats 1000000 in
set_option maxRecDepth 100000 in
theorem sSlots_none {w : World} {L : Pl} {s : Spc} (h : SpAt w L s) (hz : ∀ l ∈ s.u.tlb, ∀ e ∈ l, e = Way.zero) : Calls Tryz.prog 62 #[.pointer (some ⟨L.pb, 0, none⟩)] w (RetW (.slice none 0 0) fun w' => Chg NoB w w') := by
  have HB := Lib.hid (bList_none h.mu.tlb hz)
  have f6 := h.blk.cell' (i := 6) (v := .pointer (some ⟨L.bb, 0, none⟩)) rfl
  have fl := h.blk.lt
  clear h hz
  go_enter Tryz.func62, Tryz.ntmps62
  go_wp2_with fail
  refine HB.out.mono ?_
  rintro e w1 ⟨rfl, C1⟩
  go_wp2_with fail
  go_ret
  exact ⟨rfl, C1⟩
set_option maxHeartbeats 1000000 in
set_option maxRecDepth 100000 in
theorem vAdd_any {w : World} {vb : Nat} (hb : Blk w vb #[.bool false, .bool false] 59) (v r pw x u g a d : Bool) (rsw : Int) (ppn : Int) :
    Calls Tryz.prog 61 #[.pointer (some ⟨vb, 0, none⟩), .agg #[.bool v, .bool r, .bool pw, .bool x, .bool u, .bool g, .bool a, .bool d, .int .i64 rsw, .int .u64 ppn]] w (RetW (.tuple #[]) fun w' => Blk w' vb #[.bool true, .bool pw] 59 ∧ Chg (fun k => k = vb) w w') := by
  have f0 := hb.cell' (i := 0) (v := .bool false) rfl
  have f1 := hb.cell' (i := 1) (v := .bool false) rfl
  have fl := hb.lt
  have z0 := hb.frozen 0
  have z1 := hb.frozen 1
  have HB := Lib.hid hb
  have c1 : Chg (fun k => k = vb) w (w.setCell ⟨vb, 0, none⟩ (.bool true)) := (Chg.refl (fun k => k = vb) w).setCell (a := ⟨vb, 0, none⟩) (.inl rfl) _
  have HD := Lib.hid (And.intro ((hb.set 0 (.bool true)).set 1 (.bool pw)) (c1.setCell (a := ⟨vb, 1, none⟩) (.inl rfl) (.bool pw)))
  clear hb c1
  go_enter Tryz.func61, Tryz.ntmps61
  go_wp2_with fail
  refine bodyPost_end (results_none rfl _ _ _) rfl ?_
  exact ⟨rfl, HD.out.1.alloc _, HD.out.2.alloc _⟩
def vB (s : Spc) (p : Int) : Bool := !(rightOf s p == 0)
def wB (s : Spc) (p : Int) : Bool := rightOf s p == 2
theorem look_find {s : Spc} (h : SpOk s) (p : Nat) (hp : p < 2) : ∃ l ec, findF s.u.b s.u.fr s.root (vaOf p) = (l, ec) ∧ (ec == 0) = vB s p ∧ (vB s p = true → l.p.w = wB s p) ∧ (vB s p = false → wB s p = false) := by
  obtain ⟨t1, t0, I⟩ := h.inv
  obtain ⟨hv, hc⟩ := va_page p (by omega)
  have hf := find_tab I.inv.tab I.fr hc
  rw [hv] at hf
  have hr : wB s p = true → vB s p = true := fun e => by
    unfold wB at e
    unfold vB
    have : rightOf s p = 2 := by simpa using e
    rw [this]
    rfl
  by_cases h0 : rightOf s p = 0
  · have hl : s.lf (262144 + p) = none := by
      have hcl := I.cl
      have hol := I.ol
      unfold Spc.lf
      rw [if_neg (by omega), if_neg (by omega), if_neg]
      rintro ⟨-, e⟩
      rw [show ((262144 + p - 262144 : Nat) : Int) = p by omega] at e
      exact e h0
    rw [hl] at hf
    have e1 : vB s p = false := by unfold vB; rw [h0]; rfl
    exact ⟨_, _, hf, by rw [e1]; rfl, fun e => absurd (e1.symm.trans e) (by decide), fun _ => by cases e2 : wB s p with | false => rfl | true => rw [hr e2] at e1; cases e1⟩
  · obtain ⟨f, hfr⟩ := Option.isSome_iff_exists.1 (I.rf p h0)
    have hl := lf_at I.cl I.ol hfr
    rw [if_neg h0] at hl
    rw [hl] at hf
    have e1 : vB s p = true := by unfold vB; simp [h0]
    refine ⟨_, _, hf, by rw [e1]; rfl, fun _ => ?_, fun e => absurd (e1.symm.trans e) (by decide)⟩
    show (ent (rightOf s p) f).w = wB s p
    unfold ent wB
    by_cases h2 : rightOf s p = 2
    · rw [h2]; rfl
    · rw [if_neg h2, beq_eq_false_iff_ne.2 h2]; rfl
set_option maxHeartbeats 2000000 in
set_option maxRecDepth 100000 in
theorem look_any {w : World} {F : Nat → Nat → Prop} {P : Cpl} {m n : Nat} {s : Nat → Spc} (h : CL w F P m n s) (i : Nat) (hi : i < m) (p : Nat) (hp : p < 2) :
    Calls Tryz.prog 26 #[.pointer (some ⟨P.nb i, 0, none⟩), .int .i64 p] w (RetW (.agg #[.bool (vB (s i) p), .bool (wB (s i) p)]) fun w' => Chg NoB w w') := by
  obtain ⟨⟨⟨v, r, pw, x, u, g, a, d, rsw, ppn⟩, lv, pos⟩, ec, hE, he1, he2, he3⟩ := look_find (h.ok i hi) p hp
  obtain ⟨L, hS, hpb, -⟩ := h.sp i hi
  have HSp := Lib.hid fun w' (c : Chg NoB w w') => nSpace_any (h.chg0 c) i hi
  have HSl := Lib.hid fun w' (c : Chg NoB w w') => sSlots_none (hS.chg0 c) (h.ok i hi).tz
  have HFi := Lib.hid fun w' (c : Chg NoB w w') => sFind_any (hS.chg0 c) (vaOf p) (vaOf_lt p (by omega)).1
  have hva : ((vaOf p : Nat) : Int) = 1073741824 + (p : Int) * 4096 := by unfold vaOf; omega
  rw [hE, hpb, hva] at HFi
  rw [hpb] at HSl
  obtain ⟨pb, hpb'⟩ : ∃ b, P.pb i = b := ⟨_, rfl⟩
  rw [hpb'] at HSp HSl HFi
  obtain ⟨nb, hnb'⟩ : ∃ b, P.nb i = b := ⟨_, rfl⟩
  rw [hnb'] at HSp ⊢
  simp only [Leaf.out] at HFi
  obtain ⟨ok, hok⟩ : ∃ b, vB (s i) p = b := ⟨_, rfl⟩
  obtain ⟨wr, hwr⟩ : ∃ b, wB (s i) p = b := ⟨_, rfl⟩
  rw [he1, hok] at HFi
  rw [hok, hwr] at he2 he3
  rw [hok, hwr]
  have HA1 := Lib.hid (Blk.new w #[.bool false, .bool false] 59)
  have HC1 := Lib.hid ((Chg.refl NoB w).alloc (.cells #[.bool false, .bool false] 59))
  have HE := Lib.hid (And.intro he2 he3)
  clear h hS hE he1 he2 he3 hpb hpb' hnb' hok hwr hva
  go_enter Tryz.func26, Tryz.ntmps26
  go_upto_region 1 with fail
  generalize w.alloc (.cells #[.bool false, .bool false] 59) = w1 at *
  obtain ⟨rb, hrb⟩ : ∃ b, w.heap.size = b := ⟨_, rfl⟩
  rw [hrb] at HA1
  simp only [hrb]
  have HRB := Lib.hid hrb
  have HA2 := Lib.hid (Blk.new w1 #[.bool false, .bool false] 59)
  have HC2 := Lib.hid (HC1.out.alloc (.cells #[.bool false, .bool false] 59))
  have HA1' := Lib.hid (((Chg.refl NoB w1).alloc (.cells #[.bool false, .bool false] 59)).blk0 HA1.out)
  clear hrb
  go_upto_region 2 with fail
  generalize w1.alloc (.cells #[.bool false, .bool false] 59) = w2 at *
  obtain ⟨vb, hvb⟩ : ∃ b, w1.heap.size = b := ⟨_, rfl⟩
  rw [hvb] at HA2
  simp only [hvb]
  have HVB := Lib.hid (And.intro hvb HC1.out.size)
  clear hvb
  have HZ : Hid (w.heap.size ≤ vb ∧ w.heap.size ≤ rb ∧ rb < vb) := Lib.hid (by have := HA1.out.lt; have := HVB.out; have := HRB.out; omega)
  have hp' : (p : Int) < 2 := by omega
  clear HA1 HC1
  go_wp2_with fail
  with_reducible refine (HSp.out _ HC2.out).mono ?_
  rintro e w3 ⟨rfl, hw⟩
  subst hw
  go_wp2_with fail
  with_reducible refine (HFi.out _ HC2.out).mono ?_
  rintro e w4 ⟨rfl, C4⟩
  have HA14 := Lib.hid (C4.blk0 HA1'.out)
  have HA24 := Lib.hid (C4.blk0 HA2.out)
  have HC4 := Lib.hid (HC2.out.step C4)
  have c4 := C4.size
  have HBL := Lib.hid (Blk.new w4 #[.bool v, .bool r, .bool pw, .bool x, .bool u, .bool g, .bool a, .bool d, .int .i64 rsw, .int .u64 ppn, .int .i64 lv, .int .u64 pos] 133)
  have HCL := Lib.hid ((Chg.refl NoB w4).alloc (.cells #[.bool v, .bool r, .bool pw, .bool x, .bool u, .bool g, .bool a, .bool d, .int .i64 rsw, .int .u64 ppn, .int .i64 lv, .int .u64 pos] 133))
  clear C4 c4
  go_upto_region 4 with fail
  generalize w4.alloc (.cells #[.bool v, .bool r, .bool pw, .bool x, .bool u, .bool g, .bool a, .bool d, .int .i64 rsw, .int .u64 ppn, .int .i64 lv, .int .u64 pos] 133) = w5 at *
  obtain ⟨lb, hlb⟩ : ∃ b, w4.heap.size = b := ⟨_, rfl⟩
  rw [hlb] at HBL
  simp only [hlb]
  have HLB := Lib.hid hlb
  clear hlb
  cases ok
  · have HX := Lib.hid (HC4.out.step HCL.out)
    have hV6 := HCL.out.blk0 HA24.out
    have hR6 := HCL.out.blk0 HA14.out
    have hw0 : wr = false := HE.out.2 rfl
    subst hw0
    go_wp2_with fail
    with_reducible refine (HSp.out _ HX.out).mono ?_
    rintro e w3' ⟨rfl, hw⟩
    subst hw
    have HV6 := Lib.hid hV6
    have HR6 := Lib.hid hR6
    clear hV6 hR6
    go_wp2_with fail
    with_reducible refine (HSl.out _ HX.out).mono ?_
    rintro e w7 ⟨rfl, C7⟩
    have HC7 := Lib.hid C7
    clear C7
    go_wp2_with fail
    go_loopg [30] 0 (fun k v wr => v = .int .i64 0 ∧ wr = w7)
    case atStart => exact ⟨rfl, rfl⟩
    case round =>
      obtain ⟨rfl, rfl⟩ := hrel
      have hV7 := HC7.out.blk0 HV6.out
      have hR7 := HC7.out.blk0 HR6.out
      have v0 := hV7.cell' (i := 0) (v := .bool false) rfl
      have v1 := hV7.cell' (i := 1) (v := .bool false) rfl
      have vl := hV7.lt
      have r0 := hR7.cell' (i := 0) (v := .bool false) rfl
      have r1 := hR7.cell' (i := 1) (v := .bool false) rfl
      have rl := hR7.lt
      have rz := hR7.frozen
      have HCZ := Lib.hid (((HX.out.step HC7.out).setCell (a := ⟨rb, 0, none⟩) (.inr HZ.out.2.1) (.bool false)).setCell (a := ⟨rb, 1, none⟩) (.inr HZ.out.2.1) (.bool false))
      clear hV7 hR7
      go_wp2_with fail
      exact bodyPost_ret (v := .agg #[.bool false, .bool false]) (by simp [results, Tryz.results26, go_sem, r0, r1, rl]) rfl ⟨rfl, HCZ.out⟩
  · have gL := HBL.out.ever
    have gLl := HBL.out.everL
    have c5 := Chg.refl NoB w5
    have hV5 := HCL.out.blk0 HA24.out
    have HV := Lib.hid (vAdd_any hV5 v r pw x u g a d rsw ppn)
    have HA15 := Lib.hid (HCL.out.blk0 HA14.out)
    have hw0 : pw = wr := HE.out.1 rfl
    subst hw0
    clear hV5
    go_wp2_with fail
    with_reducible refine HV.out.mono ?_
    rintro e w6 ⟨rfl, hV6, C6⟩
    have HX := Lib.hid ((HC4.out.step HCL.out).trans C6 fun b hb e => by have e : b = vb := e; have := HZ.out; omega)
    have hR6 := C6.blk HA15.out (fun e => by have e : rb = vb := e; have := HZ.out; omega)
    clear gL gLl c5 C6
    go_wp2_with fail
    with_reducible refine (HSp.out _ HX.out).mono ?_
    rintro e w3' ⟨rfl, hw⟩
    subst hw
    have HV6 := Lib.hid hV6
    have HR6 := Lib.hid hR6
    clear hV6 hR6
    go_wp2_with fail
    with_reducible refine (HSl.out _ HX.out).mono ?_
    rintro e w7 ⟨rfl, C7⟩
    have HC7 := Lib.hid C7
    clear C7
    go_wp2_with fail
    go_loopg [30] 0 (fun k v wr => v = .int .i64 0 ∧ wr = w7)
    case atStart => exact ⟨rfl, rfl⟩
    case round =>
      obtain ⟨rfl, rfl⟩ := hrel
      have hV7 := HC7.out.blk0 HV6.out
      have hR7 := HC7.out.blk0 HR6.out
      have v0 := hV7.cell' (i := 0) (v := .bool true) rfl
      have v1 := hV7.cell' (i := 1) (v := .bool pw) rfl
      have vl := hV7.lt
      have r0 := hR7.cell' (i := 0) (v := .bool false) rfl
      have r1 := hR7.cell' (i := 1) (v := .bool false) rfl
      have rl := hR7.lt
      have rz := hR7.frozen
      have HCZ := Lib.hid (((HX.out.step HC7.out).setCell (a := ⟨rb, 0, none⟩) (.inr HZ.out.2.1) (.bool true)).setCell (a := ⟨rb, 1, none⟩) (.inr HZ.out.2.1) (.bool pw))
      clear hV7 hR7
      go_wp2_with fail
      exact bodyPost_ret (v := .agg #[.bool true, .bool pw]) (by simp [results, Tryz.results26, go_sem, r0, r1, rl]) rfl ⟨rfl, HCZ.out⟩
end Go.Proofs.YtleilfkcjollaaaGreat
set_option linter.unusedVariables false
set_option linter.unusedSimpArgs false
namespace Go.Proofs.YtleilfkcjollaaaGreat
open Go.RowKit Go.RR
/-- A cluster as it was left by what came before. -/
structure CLx (w : World) (F : Nat → Nat → Prop) (P : Cpl) (n : Nat) (s : Nat → Spc) (wr : World) (F' : Nat → Nat → Prop) : Prop where
  cl : CL wr F' P n n s
  ex : Ext2 F F' w
  ch : Chg (InF F) w wr
theorem CLx.refl {w : World} {F : Nat → Nat → Prop} {P : Cpl} {n : Nat} {s : Nat → Spc} (h : CL w F P n n s) : CLx w F P n s w F := ⟨h, Ext2.refl F w, Chg.refl _ _⟩
theorem CLx.chg0 {w wr w' : World} {F F' : Nat → Nat → Prop} {P : Cpl} {n : Nat} {s : Nat → Spc} (h : CLx w F P n s wr F') (c : Chg NoB wr w') : CLx w F P n s w' F' := ⟨h.cl.chg0 c, h.ex, h.ch.then0 c⟩
theorem CLx.next {w wr w' : World} {F F' : Nat → Nat → Prop} {P : Cpl} {n : Nat} {s : Nat → Spc} (h : CLx w F P n s wr F') (k : CL.Then wr F' P n n s w') : ∃ F'', CLx w F P n s w' F'' := by
  obtain ⟨F'', k1, k2, k3⟩ := k
  exact ⟨F'', k1, h.ex.trans k2 h.ch.size, h.ex.chg h.ch k3⟩
theorem CLx.done {w wr : World} {F F' : Nat → Nat → Prop} {P : Cpl} {n : Nat} {s : Nat → Spc} (h : CLx w F P n s wr F') : CL.Then w F P n n s wr := ⟨F', h.cl, h.ex, h.ch⟩
/-- What a home says of a page, at rest. -/
def stV (i p : Nat) : Value := .agg #[.int .i64 0, .bool (decide (p = i)), .int .i64 p, .int .u16 0, .int .i64 0, .int .u16 0, .bool false, .int .i64 (-1), .int .i64 0]
theorem stV_eq {n p i : Nat} (hp : p < 2) (hn : 2 ≤ n) : Value.agg (stC i ((p : Int) % n)) = stV i p := by
  unfold stC stV
  rw [Int.emod_eq_of_lt (by omega) (by omega)]
  have : ((p : Int) == i) = decide (p = i) := by
    by_cases e : p = i
    · subst e; simp
    · rw [beq_eq_false_iff_ne.2 (by omega), decide_eq_false e]
  rw [this]
theorem CL.state2 {w : World} {F : Nat → Nat → Prop} {P : Cpl} {n : Nat} {s : Nat → Spc} (h : CL w F P n n s) (i : Nat) (hi : i < n) (p : Nat) (hp : p < 2) (hn : 2 ≤ n) (hn2 : n ≤ 16) :
    Calls Tryz.prog 24 #[.pointer (some ⟨P.hb i, 0, none⟩), .int .i64 p] w (RetW (stV i p) fun w' => CL.Then w F P n n s w') := by
  have := h.state i hi p (by omega) (by omega) hn hn2
  rwa [stV_eq hp hn] at this
theorem st_own (b f : Bool) (a0 a2 a3 a4 a5 a7 a8 : Int) (w : World) : (Instr.field 53 (.agg #[.int .i64 a0, .bool b, .int .i64 a2, .int .u16 a3, .int .i64 a4, .int .u16 a5, .bool f, .int .i64 a7, .int .i64 a8]) 1).run Tryz.prog w = .ok (.bool b) w := by kernel_rfl
theorem st_set (b f : Bool) (a0 a2 a3 a4 a5 a7 a8 : Int) (w : World) : (Instr.field 53 (.agg #[.int .i64 a0, .bool b, .int .i64 a2, .int .u16 a3, .int .i64 a4, .int .u16 a5, .bool f, .int .i64 a7, .int .i64 a8]) 3).run Tryz.prog w = .ok (.int .u16 a3) w := by kernel_rfl
theorem vw_valid (b f : Bool) (w : World) : (Instr.field 59 (.agg #[.bool b, .bool f]) 0).run Tryz.prog w = .ok (.bool b) w := by kernel_rfl
set_option maxHeartbeats 1000000 in
set_option maxRecDepth 100000 in
theorem owners_any {w : World} {F : Nat → Nat → Prop} {P : Cpl} {n : Nat} {s : Nat → Spc} (h : CL w F P n n s) (p : Nat) (hp : p < 2) (hn : 2 ≤ n) (hn2 : n ≤ 16) :
    Calls Tryz.prog 7 #[.pointer (some ⟨P.cb, 0, none⟩), .int .i64 p] w (RetW (.tuple #[.int .i64 1, .int .i64 p]) fun w' => CL.Then w F P n n s w') := by
  have HNs := Lib.hid (cNodes_any h)
  have H := Lib.hid (CLx.refl h)
  have HS := Lib.hid fun w' F' (h' : CL w' F' P n n s) i hi => h'.state2 i hi p hp hn hn2
  have HP := Lib.hid (And.intro hp hn)
  have hfo := st_own
  clear h hp hn
  go_enter Tryz.func7, Tryz.ntmps7
  go_wp2_with fail
  with_reducible refine HNs.out.mono ?_
  rintro e w1 ⟨rfl, hw⟩
  subst hw
  go_wp2_with fail
  go_loopg [11, 6, 7] n (fun k v a b wr => ∃ (i : Nat) (F' : Nat → Nat → Prop), v = .int .i64 i ∧ a = .int .i64 (if p < i then 1 else 0) ∧ b = .int .i64 (if p < i then (p : Int) else -1) ∧ i ≤ n ∧ k = n - i ∧ CLx w1 F P n s wr F')
  case atStart => exact ⟨0, _, rfl, by rw [if_neg (by omega)], by rw [if_neg (by omega)], by omega, by omega, H.out⟩
  case round =>
    obtain ⟨i, F', rfl, rfl, rfl, hin, hk, hL⟩ := hrel
    have HK := Lib.hid hk
    have HL := Lib.hid hL
    clear hk hL
    by_cases hi : i < n
    · have t1 : decide ((i : Int) < n) = true := decide_eq_true (by omega)
      have t2 : decide (i < n) = true := decide_eq_true hi
      have HNd := Lib.hid (cNode_any HL.out.cl i hi)
      have HHm := Lib.hid (nHome_any HL.out.cl i hi)
      have HSt := Lib.hid (HS.out _ _ HL.out.cl i hi)
      obtain ⟨nb, hnb⟩ : ∃ b, P.nb i = b := ⟨_, rfl⟩
      obtain ⟨hb, hhb⟩ : ∃ b, P.hb i = b := ⟨_, rfl⟩
      rw [hnb] at HNd HHm
      rw [hhb] at HHm HSt
      unfold stV at HSt
      obtain ⟨q, hq⟩ : ∃ q, decide (p = i) = q := ⟨_, rfl⟩
      rw [hq] at HSt
      have HQ := Lib.hid hq
      generalize hx : (if p < i then (1 : Int) else 0) = x
      generalize hy : (if p < i then (p : Int) else -1) = y
      have HXY := Lib.hid (And.intro hx hy)
      clear hnb hhb hq hx hy
      go_wp2_with fail
      with_reducible refine HNd.out.mono ?_
      rintro e w2 ⟨rfl, hw⟩
      subst hw
      go_wp2_with fail
      with_reducible refine HHm.out.mono ?_
      rintro e w3 ⟨rfl, hw⟩
      subst hw
      go_wp2_with fail
      with_reducible refine HSt.out.mono ?_
      rintro e w4 ⟨rfl, hT⟩
      have HT := Lib.hid (HL.out.next hT)
      clear hT
      cases q
      · have HN : Hid (x = (if p < i + 1 then (1 : Int) else 0) ∧ y = (if p < i + 1 then (p : Int) else -1)) := Lib.hid (by
          have hne := of_decide_eq_false HQ.out
          rw [← HXY.out.1, ← HXY.out.2]
          by_cases e : p < i
          · rw [if_pos e, if_pos (by omega), if_pos e, if_pos (by omega)]; exact ⟨rfl, rfl⟩
          · rw [if_neg e, if_neg (by omega), if_neg e, if_neg (by omega)]; exact ⟨rfl, rfl⟩)
        go_wp2_with fail
        obtain ⟨F'', hF⟩ := HT.out
        go_roundg (n - (i + 1))
        case rel => exact ⟨i + 1, F'', by go_num, by rw [HN.out.1], by rw [HN.out.2], by omega, rfl, hF⟩
        case measure => rw [HK.out]; omega
      · have hx0 : x = 0 := by
          have he := of_decide_eq_true HQ.out
          rw [← HXY.out.1, if_neg (by omega)]
        subst hx0
        have HN : Hid ((1 : Int) = (if p < i + 1 then (1 : Int) else 0) ∧ (i : Int) = (if p < i + 1 then (p : Int) else -1)) := Lib.hid (by
          have he := of_decide_eq_true HQ.out
          rw [if_pos (by omega), if_pos (by omega)]
          exact ⟨rfl, by omega⟩)
        go_wp2_with fail
        obtain ⟨F'', hF⟩ := HT.out
        go_roundg (n - (i + 1))
        case rel => exact ⟨i + 1, F'', by go_num, by rw [← HN.out.1], by rw [← HN.out.2], by omega, rfl, hF⟩
        case measure => rw [HK.out]; omega
    · have t1 : decide ((i : Int) < n) = false := decide_eq_false (by omega)
      have t2 : decide (i < n) = false := decide_eq_false hi
      have hpi : p < i := by have := HP.out; omega
      rw [if_pos hpi, if_pos hpi]
      clear hpi
      go_wp2_with fail
      go_ret2
      exact ⟨rfl, HL.out.done⟩
/-- How many of the first ones. -/
def cnt (f : Nat → Bool) : Nat → Nat
  | 0 => 0
  | n + 1 => cnt f n + (if f n then 1 else 0)
theorem cnt_le (f : Nat → Bool) : ∀ n, cnt f n ≤ n
  | 0 => Nat.le_refl _
  | n + 1 => by
    have := cnt_le f n
    unfold cnt
    split <;> omega
def exB (s : Nat → Spc) (n p : Nat) : Bool := cnt (fun j => wB (s j) p) n == 0 || cnt (fun j => vB (s j) p) n == 1
set_option maxHeartbeats 1000000 in
set_option maxRecDepth 100000 in
theorem exclusive_any {w : World} {F : Nat → Nat → Prop} {P : Cpl} {n : Nat} {s : Nat → Spc} (h : CL w F P n n s) (p : Nat) (hp : p < 2) (hn : 2 ≤ n) (hn2 : n ≤ 16) :
    Calls Tryz.prog 9 #[.pointer (some ⟨P.cb, 0, none⟩), .int .i64 p] w (RetW (.bool (exB s n p)) fun w' => Chg NoB w w') := by
  have HNs := Lib.hid (cNodes_any h)
  have H := Lib.hid h
  have HP := Lib.hid hp
  clear h hp hn
  go_enter Tryz.func9, Tryz.ntmps9
  go_wp2_with fail
  with_reducible refine HNs.out.mono ?_
  rintro e w1 ⟨rfl, hw⟩
  subst hw
  go_wp2_with fail
  go_loopg [11, 5, 6] n (fun k v a b wr => ∃ i : Nat, v = .int .i64 i ∧ a = .int .i64 (cnt (fun j => vB (s j) p) i) ∧ b = .int .i64 (cnt (fun j => wB (s j) p) i) ∧ i ≤ n ∧ k = n - i ∧ Chg NoB w1 wr)
  case atStart => exact ⟨0, rfl, rfl, rfl, by omega, by omega, Chg.refl _ _⟩
  case round =>
    obtain ⟨i, rfl, rfl, rfl, hin, hk, hC⟩ := hrel
    have HK := Lib.hid hk
    have HC := Lib.hid hC
    clear hk hC
    have hx1 := cnt_le (fun j => vB (s j) p) i
    have hx2 := cnt_le (fun j => wB (s j) p) i
    generalize hx : cnt (fun j => vB (s j) p) i = x at *
    generalize hy : cnt (fun j => wB (s j) p) i = y at *
    have HXY := Lib.hid (And.intro hx hy)
    clear hx hy
    by_cases hi : i < n
    · have t1 : decide ((i : Int) < n) = true := decide_eq_true (by omega)
      have t2 : decide (i < n) = true := decide_eq_true hi
      have HCL := Lib.hid (H.out.chg0 HC.out)
      have HNd := Lib.hid (cNode_any HCL.out i hi)
      have HLk := Lib.hid (look_any HCL.out i hi p HP.out)
      obtain ⟨nb, hnb⟩ : ∃ b, P.nb i = b := ⟨_, rfl⟩
      rw [hnb] at HNd HLk
      obtain ⟨bv, hbv⟩ : ∃ q, vB (s i) p = q := ⟨_, rfl⟩
      obtain ⟨bw, hbw⟩ : ∃ q, wB (s i) p = q := ⟨_, rfl⟩
      rw [hbv, hbw] at HLk
      have HN : Hid (cnt (fun j => vB (s j) p) (i + 1) = x + (if bv then 1 else 0) ∧ cnt (fun j => wB (s j) p) (i + 1) = y + (if bw then 1 else 0)) := Lib.hid (by
        rw [← HXY.out.1, ← HXY.out.2, ← hbv, ← hbw]; exact ⟨rfl, rfl⟩)
      clear hnb hbv hbw
      cases bv <;> cases bw
      all_goals
        go_wp2_with fail
        with_reducible refine HNd.out.mono ?_
        rintro e w2 ⟨rfl, hw⟩
        subst hw
        go_wp2_with fail
        with_reducible refine HLk.out.mono ?_
        rintro e w3 ⟨rfl, C3⟩
        have HC3 := Lib.hid (HC.out.step C3)
        clear C3
        go_wp2_with fail
        go_roundg (n - (i + 1))
        case rel => exact ⟨i + 1, by go_num, by rw [HN.out.1]; rfl, by rw [HN.out.2]; rfl, by omega, rfl, HC3.out.alloc _⟩
        case measure => rw [HK.out]; omega
    · have t1 : decide ((i : Int) < n) = false := decide_eq_false (by omega)
      have t2 : decide (i < n) = false := decide_eq_false hi
      have hR : Hid (exB s n p = (y == 0 || x == 1)) := Lib.hid (by obtain rfl : i = n := by omega
                                                                    unfold exB; rw [HXY.out.1, HXY.out.2])
      by_cases e1 : y = 0
      · subst e1
        go_wp2_with fail
        go_ret
        exact ⟨by rw [hR.out]; rfl, HC.out⟩
      · have q1 : ((y : Int) == 0) = false := beq_eq_false_iff_ne.2 (by omega)
        have q2 : (y == 0) = false := beq_eq_false_iff_ne.2 e1
        have Q2 := Lib.hid q2
        obtain ⟨z, hz⟩ : ∃ z, (x == 1) = z := ⟨_, rfl⟩
        have q3 : ((x : Int) == 1) = z := by
          rw [← hz]
          by_cases e : x = 1
          · subst e; rfl
          · rw [beq_eq_false_iff_ne.2 e, beq_eq_false_iff_ne.2 (by omega)]
        have HZ := Lib.hid hz
        clear e1 hz
        go_wp2_with fail
        go_ret
        exact ⟨by rw [hR.out, Q2.out, HZ.out]; rfl, HC.out⟩
end Go.Proofs.YtleilfkcjollaaaGreat
set_option linter.unusedVariables false
set_option linter.unusedSimpArgs false
namespace Go.Proofs.YtleilfkcjollaaaGreat
open Go.RowKit Go.RR
set_option maxHeartbeats 1000000 in
set_option maxRecDepth 100000 in
theorem nAdd_any (p : Nat) (hp : p < 2) (w : World) : Calls Tryz.prog 27 #[.int .u16 0, .int .i64 p] w (RetW (.int .u16 (if p = 0 then 1 else 2)) fun w' => w' = w) := by
  rcases p with _ | _ | p
  · have HB : Hid (∀ w', Calls Tryz.prog 63 #[.int .i64 0] w' (RetW (.int .u16 1) fun w'' => w'' = w')) := Lib.hid fun w' => nbit_any 0 (by omega) w'
    go_enter Tryz.func27, Tryz.ntmps27
    go_wp2_with fail
    with_reducible refine (HB.out _).mono ?_
    rintro e w1 ⟨rfl, hw⟩
    subst hw
    go_wp2_with fail
    go_ret
    exact ⟨rfl, rfl⟩
  · have HB : Hid (∀ w', Calls Tryz.prog 63 #[.int .i64 1] w' (RetW (.int .u16 2) fun w'' => w'' = w')) := Lib.hid fun w' => nbit_any 1 (by omega) w'
    go_enter Tryz.func27, Tryz.ntmps27
    go_wp2_with fail
    with_reducible refine (HB.out _).mono ?_
    rintro e w1 ⟨rfl, hw⟩
    subst hw
    go_wp2_with fail
    go_ret
    exact ⟨rfl, rfl⟩
  · omega
theorem has_bits : ∀ p, p < 2 → ∀ i, i < 16 → (bits .and .u16 (if p = 0 then 1 else 2) ((2 ^ i : Nat) : Int) == 0) = !decide (i = p) := by decide
set_option maxHeartbeats 1000000 in
set_option maxRecDepth 100000 in
theorem nHas_any (p : Nat) (hp : p < 2) (i : Nat) (hi : i < 16) (w : World) : Calls Tryz.prog 28 #[.int .u16 (if p = 0 then 1 else 2), .int .i64 i] w (RetW (.bool (decide (i = p))) fun w' => w' = w) := by
  have q := has_bits p hp i hi
  have HB := Lib.hid fun w' => nbit_any i hi w'
  obtain ⟨B, hB⟩ : ∃ B : Int, ((2 ^ i : Nat) : Int) = B := ⟨_, rfl⟩
  obtain ⟨A, hA⟩ : ∃ A : Int, (if p = 0 then (1 : Int) else 2) = A := ⟨_, rfl⟩
  rw [hB] at HB q
  rw [hA] at q ⊢
  have q2 : (bits .and .u16 A B != 0) = decide (i = p) := by rw [bne, q, Bool.not_not]
  have HQ := Lib.hid q2
  generalize decide (i = p) = b at *
  clear hA hB hp hi q2
  go_enter Tryz.func28, Tryz.ntmps28
  go_wp2_with fail
  with_reducible refine (HB.out _).mono ?_
  rintro e w1 ⟨rfl, hw⟩
  subst hw
  go_wp2_with fail
  go_ret
  exact ⟨congrArg (fun z => Ending.returned (Value.bool z)) HQ.out, rfl⟩
def mB (s : Nat → Spc) (n p : Nat) : Bool := (List.range n).all fun j => !(vB (s j) p) || decide (j = p)
theorem mB_true {s : Nat → Spc} {n p : Nat} (h : ∀ j, j < n → vB (s j) p = true → j = p) : mB s n p = true := by
  unfold mB
  rw [List.all_eq_true]
  intro j hj
  have := h j (List.mem_range.1 hj)
  cases e : vB (s j) p with
  | false => rfl
  | true => simp [this e]
theorem mB_false {s : Nat → Spc} {n p j : Nat} (hj : j < n) (hv : vB (s j) p = true) (hn : j ≠ p) : mB s n p = false := by
  unfold mB
  rw [List.all_eq_false]
  exact ⟨j, List.mem_range.2 hj, by rw [hv]; simp [hn]⟩
set_option maxHeartbeats 2000000 in
set_option maxRecDepth 100000 in
theorem members_any {w : World} {F : Nat → Nat → Prop} {P : Cpl} {n : Nat} {s : Nat → Spc} (h : CL w F P n n s) (p : Nat) (hp : p < 2) (hn : 2 ≤ n) (hn2 : n ≤ 16) :
    Calls Tryz.prog 10 #[.pointer (some ⟨P.cb, 0, none⟩), .int .i64 p] w (RetW (.bool (mB s n p)) fun w' => CL.Then w F P n n s w') := by
  have HO := Lib.hid (owners_any h p hp hn hn2)
  have HX := Lib.hid (CLx.refl h)
  have HP := Lib.hid (And.intro hp (And.intro hn hn2))
  have HAd := Lib.hid fun w' => nAdd_any p hp w'
  have HHs := Lib.hid fun i hi w' => nHas_any p hp i hi w'
  obtain ⟨A, hA⟩ : ∃ A : Int, (if p = 0 then (1 : Int) else 2) = A := ⟨_, rfl⟩
  rw [hA] at HAd HHs
  have hfs := st_set
  have hfv := vw_valid
  have t0 : decide ((p : Int) < 0) = false := decide_eq_false (by omega)
  clear h hp hn hA
  go_enter Tryz.func10, Tryz.ntmps10
  go_wp2_with fail
  with_reducible refine HO.out.mono ?_
  rintro e w1 ⟨rfl, hT⟩
  obtain ⟨F1, H1⟩ := HX.out.next hT
  have H1 := Lib.hid H1
  have HNd := Lib.hid (cNode_any H1.out.cl p (by have := HP.out; omega))
  have HHm := Lib.hid (nHome_any H1.out.cl p (by have := HP.out; omega))
  have HSt := Lib.hid (H1.out.cl.state2 p (by have := HP.out; omega) p HP.out.1 HP.out.2.1 HP.out.2.2)
  obtain ⟨nb, hnb⟩ : ∃ b, P.nb p = b := ⟨_, rfl⟩
  obtain ⟨hb, hhb⟩ : ∃ b, P.hb p = b := ⟨_, rfl⟩
  rw [hnb] at HNd HHm
  rw [hhb] at HHm HSt
  unfold stV at HSt
  rw [decide_eq_true (rfl : p = p)] at HSt
  clear hT HO HX hnb hhb
  go_wp2_with fail
  with_reducible refine HNd.out.mono ?_
  rintro e w2 ⟨rfl, hw⟩
  subst hw
  go_wp2_with fail
  with_reducible refine HHm.out.mono ?_
  rintro e w3 ⟨rfl, hw⟩
  subst hw
  go_wp2_with fail
  with_reducible refine HSt.out.mono ?_
  rintro e w4 ⟨rfl, hT⟩
  obtain ⟨F4, H4⟩ := H1.out.next hT
  have H4 := Lib.hid H4
  have HNs := Lib.hid (cNodes_any H4.out.cl)
  clear hT HNd HHm HSt
  go_wp2_with fail
  with_reducible refine (HAd.out _).mono ?_
  rintro e w5 ⟨rfl, hw⟩
  subst hw
  go_wp2_with fail
  with_reducible refine HNs.out.mono ?_
  rintro e w6 ⟨rfl, hw⟩
  subst hw
  go_wp2_with fail
  go_loopg [28] n (fun k v wr => ∃ i : Nat, v = .int .i64 i ∧ i ≤ n ∧ k = n - i ∧ (∀ j, j < i → vB (s j) p = true → j = p) ∧ Chg NoB w6 wr)
  case atStart => exact ⟨0, rfl, by omega, by omega, fun j hj => by omega, Chg.refl _ _⟩
  case round =>
    obtain ⟨i, rfl, hin, hk, hA, hC⟩ := hrel
    have HK := Lib.hid hk
    have HA := Lib.hid hA
    have HC := Lib.hid hC
    clear hk hA hC
    by_cases hi : i < n
    · have t1 : decide ((i : Int) < n) = true := decide_eq_true (by omega)
      have t2 : decide (i < n) = true := decide_eq_true hi
      have HCL := Lib.hid (H4.out.cl.chg0 HC.out)
      have HNd := Lib.hid (cNode_any HCL.out i hi)
      have HLk := Lib.hid (look_any HCL.out i hi p HP.out.1)
      obtain ⟨nb, hnb⟩ : ∃ b, P.nb i = b := ⟨_, rfl⟩
      rw [hnb] at HNd HLk
      obtain ⟨bv, hbv⟩ : ∃ q, vB (s i) p = q := ⟨_, rfl⟩
      rw [hbv] at HLk
      have HV := Lib.hid hbv
      have HH1 := Lib.hid (HHs.out i (by have := HP.out; omega))
      obtain ⟨q, hq⟩ : ∃ q, decide (i = p) = q := ⟨_, rfl⟩
      rw [hq] at HH1
      have HQ := Lib.hid hq
      clear hnb hbv hq
      cases bv
      · have HN : Hid (∀ j, j < i + 1 → vB (s j) p = true → j = p) := Lib.hid (fun j hj hv => by
          by_cases e : j = i
          · subst e; rw [HV.out] at hv; cases hv
          · exact HA.out j (by omega) hv)
        go_wp2_with fail
        with_reducible refine HNd.out.mono ?_
        rintro e w2' ⟨rfl, hw⟩
        subst hw
        go_wp2_with fail
        with_reducible refine HLk.out.mono ?_
        rintro e w3' ⟨rfl, C3⟩
        have HC3 := Lib.hid (HC.out.step C3)
        clear C3
        go_wp2_with fail
        go_roundg (n - (i + 1))
        case rel => exact ⟨i + 1, by go_num, by omega, rfl, HN.out, HC3.out⟩
        case measure => rw [HK.out]; omega
      · cases q
        · have HN : Hid (mB s n p = false) := Lib.hid (mB_false hi HV.out (of_decide_eq_false HQ.out))
          go_wp2_with fail
          with_reducible refine HNd.out.mono ?_
          rintro e w2' ⟨rfl, hw⟩
          subst hw
          go_wp2_with fail
          with_reducible refine HLk.out.mono ?_
          rintro e w3' ⟨rfl, C3⟩
          have HC3 := Lib.hid (HC.out.step C3)
          clear C3
          go_wp2_with fail
          with_reducible refine (HH1.out _).mono ?_
          rintro e w4' ⟨rfl, hw⟩
          subst hw
          go_wp2_with fail
          go_ret
          exact ⟨by rw [HN.out]; rfl, (H4.out.chg0 HC3.out).done⟩
        · have HN : Hid (∀ j, j < i + 1 → vB (s j) p = true → j = p) := Lib.hid (fun j hj hv => by
            by_cases e : j = i
            · subst e; exact of_decide_eq_true HQ.out
            · exact HA.out j (by omega) hv)
          go_wp2_with fail
          with_reducible refine HNd.out.mono ?_
          rintro e w2' ⟨rfl, hw⟩
          subst hw
          go_wp2_with fail
          with_reducible refine HLk.out.mono ?_
          rintro e w3' ⟨rfl, C3⟩
          have HC3 := Lib.hid (HC.out.step C3)
          clear C3
          go_wp2_with fail
          with_reducible refine (HH1.out _).mono ?_
          rintro e w4' ⟨rfl, hw⟩
          subst hw
          go_wp2_with fail
          go_roundg (n - (i + 1))
          case rel => exact ⟨i + 1, by go_num, by omega, rfl, HN.out, HC3.out⟩
          case measure => rw [HK.out]; omega
    · have t1 : decide ((i : Int) < n) = false := decide_eq_false (by omega)
      have t2 : decide (i < n) = false := decide_eq_false hi
      have HN : Hid (mB s n p = true) := Lib.hid (mB_true fun j hj => HA.out j (by omega))
      go_wp2_with fail
      go_ret
      exact ⟨by rw [HN.out]; rfl, (H4.out.chg0 HC.out).done⟩
/-- A page's bytes as a text. -/
def pgS (d : By) : ByteArray := ⟨((List.range 4096).map fun i => UInt8.ofNat (d i)).toArray⟩
theorem pgS_size (d : By) : (pgS d).size = 4096 := by unfold pgS; simp [ByteArray.size]
theorem pgS_cells {d : By} (h : ∀ a, d a < 256) : byteCells (pgS d) = bcells d 4096 := by
  unfold byteCells pgS bcells
  simp only [List.map_map]
  apply List.map_congr_left
  intro i hi
  show Value.int .u8 ((UInt8.ofNat (d i)).toNat : Int) = _
  rw [UInt8.toNat_ofNat', Nat.mod_eq_of_lt (h i)]
set_option maxHeartbeats 1000000 in
set_option maxRecDepth 100000 in
theorem bEqual_any {w : World} {S1 S2 : Nat → Prop} {v1 v2 : Value} {A B : ByteArray} (h1 : Sl w S1 1 v1 A.size (byteCells A)) (h2 : Sl w S2 1 v2 B.size (byteCells B)) :
    Calls Tryz.prog 30 #[v1, v2] w (RetW (.bool (A.toList == B.toList)) fun w' => w' = w) := by
  have r1 := run_text (P := Tryz.prog) 48 9 5 Tryz.underlying48 Tryz.underlying5 Tryz.underlying9 h1
  have r2 := run_text (P := Tryz.prog) 48 9 5 Tryz.underlying48 Tryz.underlying5 Tryz.underlying9 h2
  obtain ⟨p1, c1, rfl⟩ := h1.form
  obtain ⟨p2, c2, rfl⟩ := h2.form
  clear h1 h2
  go_enter Tryz.func30, Tryz.ntmps30
  go_wp2_with fail
  go_ret
  exact ⟨rfl, rfl⟩
end Go.Proofs.YtleilfkcjollaaaGreat
