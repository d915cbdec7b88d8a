/- Homes that talk: a turn is done, letters and all. No condition. -/
import Derived.Test.YtdjaeoeejcmhdaaGreatDoorHr
set_option linter.unusedVariables false
set_option linter.unusedSimpArgs false
namespace Go.Proofs.YtdjaeoeejcmhdaaGreatDoor
open Go.RowKit Go.RR
theorem memAt_ok {w : World} {S : Nat → Prop} {mb : Nat} {b : By} {fr : Nat} (h : MemAt w S mb b fr) : ByOk b := by
  obtain ⟨mp, m, h1, h2, h3, h4, h5, h6⟩ := h
  exact h6.ok
theorem data_ok {w : World} {L : Pl} {s : Spc} (h : SpAt w L s) (p : Int) : ∀ i, dataF s p i < 256 := fun i => by
  cases hf : frameOf s p with
  | none => rw [data_none hf]; decide
  | some f => rw [data_some hf]; exact memAt_ok h.mu.mem _
theorem ltsC_get {num : Int} {ls : List Lt} {i : Nat} {x : Lt} (h : ls[i]? = some x) {j : Nat} (hj : j < 8) : (ltsC num ls)[i * 8 + j]? = (ltC num x)[j]? := by
  induction ls generalizing i with
  | nil => cases h
  | cons y ls ih =>
    have e : ltsC num (y :: ls) = ltC num y ++ ltsC num ls := rfl
    cases i with
    | zero =>
      cases h
      rw [e, Nat.zero_mul, Nat.zero_add, List.getElem?_append_left (by show j < 8; exact hj)]
    | succ i =>
      rw [e, List.getElem?_append_right (by show 8 ≤ _; omega), show (i + 1) * 8 + j - (ltC num y).length = i * 8 + j by show _ - 8 = _; omega]
      exact ih h
set_option maxHeartbeats 4000000 in
set_option maxRecDepth 100000 in
theorem hdo24 {w : World} {hb mb : Nat} {me n pv sh : Int} {L : Pl} {s s1 : Spc} (hH : Blk w hb #[.int .i64 me, .int .i64 n, .pointer (some ⟨L.pb, 0, none⟩), .int .i64 1, .int .i64 pv, .int .i64 sh, .map (some mb)] 68) (hhb : ¬ L.All hb) (hS : SpAt w L s) (num : Nat) (lay : Bool) (r : Int) (ls : List Lt) (hls : ls.length ≤ 100) {p : Option Addr} {c : Nat} {SL : Nat → Prop}
    (hsl : Sl w SL 8 (.slice p ls.length c) ls.length (ltsC num ls)) (hSL : ∀ k, SL k → ¬ L.All k) {dp : Option Addr} {dn dc : Nat}
    (HSD : lay = true → ∀ w', Chg NoB w w' → Calls Tryz.prog 43 #[.pointer (some ⟨L.pb, 0, none⟩), .int .i64 num, .slice dp dn dc] w' (RetW (.int .i64 0) fun w'' => ∃ L', Ext L L' w' ∧ SpAt w'' L' s1 ∧ Chg L.All w' w''))
    (hs0 : lay = false → s1 = s) (hset : SetOk s1 num r) (hfr : ∀ f, frameOf s1 num = some f → f < s1.u.fr) (hsh : (num : Int) < s1.shape.shared) :
    Calls Tryz.prog 19 #[.pointer (some ⟨hb, 0, none⟩), .int .i64 num, .agg #[.bool lay, .int .i64 r, .slice p ls.length c], .slice dp dn dc] w (RetV fun v w' => ∃ (L' : Pl) (SP : Nat → Prop), Ext L L' w ∧ SpAt w' L' (setF s1 num r).2 ∧ PosAt w' SP v num (ls.map (poOf (dataF s1 num))) ∧
      (∀ k, SP k → w.heap.size ≤ k ∧ k < w'.heap.size ∧ ¬ L'.All k) ∧ Chg L.All w w') := by
  have c0 := (Chg.refl NoB w).alloc (.cells #[.bool lay, .int .i64 r, .slice p ls.length c] 73)
  have hB := Blk.new w #[.bool lay, .int .i64 r, .slice p ls.length c] 73
  have hb0 : ¬ L.All w.heap.size := fun e => absurd (hS.lt _ e) (Nat.lt_irrefl _)
  have HSD0 := Lib.hid HSD
  have HW0 := Lib.hid (And.intro hset (And.intro hfr (And.intro hsh (And.intro hs0 (And.intro hls hb0)))))
  have HS0 := Lib.hid (hS.chg0 c0)
  have HH0 := Lib.hid (c0.blk0 hH)
  have HL0 := Lib.hid (And.intro (hsl.chg0 c0) (And.intro hSL hhb))
  have HC0 := Lib.hid c0
  have HZ := Lib.hid hS.lt
  clear hS hsl hSL HSD hs0 hset hfr hsh hls hb0 hH hhb
  obtain ⟨i0, hi0, hz0, hz1, hz2⟩ := info_parts POSTi
  go_enter Tryz.func19, Tryz.ntmps19
  go_upto_region 1 with fail
  generalize w.alloc (.cells #[.bool lay, .int .i64 r, .slice p ls.length c] 73) = w0 at *
  obtain ⟨b0, hb0⟩ : ∃ b, w.heap.size = b := ⟨_, rfl⟩
  have HB0 := Lib.hid hb0
  rw [hb0] at hB
  simp only [hb0]
  have HB := Lib.hid hB
  clear hb0 hB c0
  have q0 := HB.out.cell' (i := 0) (v := .bool lay) rfl
  have ql := HB.out.lt
  cases lay
  · obtain rfl : s1 = s := HW0.out.2.2.2.1 rfl
    have HE1 := Lib.hid (And.intro (Ext.refl L w) (HC0.out.mono (S' := L.All) fun _ _ e => e.elim))
    have HS1 := HS0
    have HB1 := HB
    have HH1 := HH0
    have HL1 := HL0
    obtain ⟨L1, hL1⟩ : ∃ L1, L = L1 := ⟨_, rfl⟩
    rw [hL1] at HS1
    have HP1 := Lib.hid (And.intro hL1 (show L1.pb = L.pb by rw [hL1]))
    have HE1' : Hid (Ext L L1 w ∧ Chg L.All w w0) := by rw [← hL1]; exact HE1
    clear HE1 hL1 HS0 HB HH0 HL0 HSD0
    go_upto_region 3 with fail
    clear q0 ql
    generalize w0 = w1 at *
    have HDt := Lib.hid fun w' (c : Chg NoB w1 w') => (by have := data_any (HS1.out.chg0 c) num (by omega) HW0.out.2.2.1 HW0.out.2.1; rwa [HP1.out.2] at this : Calls Tryz.prog 45 #[.pointer (some ⟨L.pb, 0, none⟩), .int .i64 num] w' (RetV fun v w'' => Own w'' (fun k => w'.heap.size ≤ k) 5 1 v 4096 (bcells (dataF s1 num) 4096) ∧ Chg NoB w' w''))
    have HBy : Hid (∀ i, dataF s1 num i < 256) := Lib.hid (data_ok HS1.out num)
    have q2 := HB1.out.cell' (i := 2) (v := .slice p ls.length c) rfl
    have ql := HB1.out.lt
    go_wp2_with fail
    clear q2 ql
    go_loopg [24, 9] ls.length (fun k iv ov wr => ∃ (i : Nat) (op : Option Addr) (oc : Nat), i + k = ls.length ∧ iv = .int .i64 i ∧ ov = .slice op i oc ∧ PoR w1 num (dataF s1 num) ls i (.slice op i oc) wr)
    case atStart => exact ⟨0, none, 0, by omega, rfl, rfl, PoR.start ..⟩
    case round =>
      obtain ⟨i, op, oc, hk, rfl, rfl, hP⟩ := hrel
      rename World => wr
      have HK := Lib.hid hk
      have HPo := Lib.hid hP
      obtain ⟨cP⟩ : Nonempty (Chg NoB w1 wr) := by obtain ⟨_, _, _, _, _, _, _, _, c⟩ := hP; exact ⟨c⟩
      clear hk hP
      by_cases hi : i < ls.length
      · have t1 : decide ((i : Int) < ls.length) = true := decide_eq_true (by omega)
        have t2 : decide (i < ls.length) = true := decide_eq_true hi
        obtain ⟨x, hx⟩ : ∃ x, ls[i]? = some x := ⟨_, List.getElem?_eq_getElem hi⟩
        obtain ⟨-, p', c', hv, hnc, hcell⟩ := HL1.out.1
        cases hv
        obtain ⟨g, off, rfl, -, hgl, hcl⟩ := hcell (by omega)
        have xc : ∀ j, j < 8 → ∀ u, (ltC num x)[j]? = some u → wr.cell? ⟨g, off + (i * 8 + j), none⟩ = some u := fun j hj u hu => cP.cell (hcl _ u ((ltsC_get hx hj).trans hu)) id
        have x0 := xc 0 (by omega) _ rfl
        have x1 := xc 1 (by omega) _ rfl
        have x2 := xc 2 (by omega) _ rfl
        have x3 := xc 3 (by omega) _ rfl
        have x4 := xc 4 (by omega) _ rfl
        have x5 := xc 5 (by omega) _ rfl
        have x6 := xc 6 (by omega) _ rfl
        have x7 := xc 7 (by omega) _ rfl
        simp only [← Nat.add_assoc, Nat.add_zero] at x0 x1 x2 x3 x4 x5 x6 x7
        have xl := Nat.lt_of_lt_of_le hgl cP.size
        have HX := Lib.hid hx
        obtain ⟨dst, kind, node, hops, set, pg⟩ := x
        dsimp only at x0 x1 x2 x3 x4 x5 x6 x7
        clear xc hx hcl hcell hgl hnc
        go_upto_region 7 with fail
        have hLb := Blk.new wr #[.int .i64 dst, .int .i64 kind, .int .i64 num, .int .i64 node, .int .i64 hops, .int .u16 set, .slice none 0 0, .bool pg] 121
        have cL := (Chg.refl NoB wr).alloc (.cells #[.int .i64 dst, .int .i64 kind, .int .i64 num, .int .i64 node, .int .i64 hops, .int .u16 set, .slice none 0 0, .bool pg] 121)
        generalize wr.alloc (.cells #[.int .i64 dst, .int .i64 kind, .int .i64 num, .int .i64 node, .int .i64 hops, .int .u16 set, .slice none 0 0, .bool pg] 121) = wl at *
        obtain ⟨lb, hlb⟩ : ∃ b, wr.heap.size = b := ⟨_, rfl⟩
        have HLBE := Lib.hid hlb
        rw [hlb] at hLb
        simp only [hlb]
        have HLb := Lib.hid hLb
        have HcL := Lib.hid cL
        have HcP := Lib.hid cP
        clear x0 x1 x2 x3 x4 x5 x6 x7 xl hlb hLb cL cP
        cases pg
        · have p7 := HLb.out.cell' (i := 7) (v := .bool false) rfl
          have pl := HLb.out.lt
          go_upto_region 9 with fail
          clear p7 pl
          have HD : Hid (DatW wl (fun _ => False) (.slice none 0 0) none) := Lib.hid rfl
          have HSDn : Hid (∀ k, (fun _ : Nat => False) k → wr.heap.size ≤ k ∧ k < wl.heap.size) := Lib.hid fun k hk => hk.elim
          have HLbD := HLb
          have HcD := HcL
          clear HLb HcL
          generalize wl = wd at *
          obtain ⟨l, SO, SD, k1, k2, k3, k4, k5, k6⟩ := HPo.out
          have hll : l.length = i := by
            have := congrArg List.length k1
            rw [List.length_map, List.length_map, List.length_take] at this
            omega
          have HPK := Lib.hid (And.intro k1 (And.intro k2 (And.intro k3 (And.intro k4 (And.intro k5 k6)))))
          have hO := k2
          rw [hll] at hO
          have oX := hO.chg0 (HcD.out.alloc (.cells #[.int .i64 dst, .int .i64 kind, .int .i64 num, .int .i64 node, .int .i64 hops, .int .u16 set, .slice none 0 0] 54))
          have sX := Sl.fresh (size := 7) wd [.int .i64 dst, .int .i64 kind, .int .i64 num, .int .i64 node, .int .i64 hops, .int .u16 set, .slice none 0 0] 54 1 rfl
          have ca := (Chg.refl NoB wd).alloc (.cells #[.int .i64 dst, .int .i64 kind, .int .i64 num, .int .i64 node, .int .i64 hops, .int .u16 set, .slice none 0 0] 54)
          have HCA := Lib.hid ca
          have one : ∀ u ∈ ([.int .i64 dst, .int .i64 kind, .int .i64 num, .int .i64 node, .int .i64 hops, .int .u16 set, .slice none 0 0] : List Value), u.oneCell' = true := by simp [Value.oneCell']
          have b1 : i + 1 ≤ maxLen := by have := HW0.out.2.2.2.2.1; unfold maxLen; omega
          have b2 : (i + 1) * 72 ≤ 140737488355328 := by have := HW0.out.2.2.2.2.1; omega
          have p0 := HLbD.out.cell' (i := 0) (v := .int .i64 dst) rfl
          have p1 := HLbD.out.cell' (i := 1) (v := .int .i64 kind) rfl
          have p2 := HLbD.out.cell' (i := 2) (v := .int .i64 num) rfl
          have p3 := HLbD.out.cell' (i := 3) (v := .int .i64 node) rfl
          have p4 := HLbD.out.cell' (i := 4) (v := .int .i64 hops) rfl
          have p5 := HLbD.out.cell' (i := 5) (v := .int .u16 set) rfl
          have p6 := HLbD.out.cell' (i := 6) (v := .slice none 0 0) rfl
          have pl := HLbD.out.lt
          have HLL := Lib.hid hll
          clear k1 k2 k3 k4 k5 k6 hO ca hll
          go_wp2_with (at_builtin; go_must (refine wpList_app rfl _ _ 35 rfl i0 _ 72 Tryz.underlying35 hi0 hz0 hz1 hz2 rfl rfl oX _ 1 _ rfl sX one b1 b2 ?_))
          intro v' w' ho hg hn
          obtain ⟨vp, vc, hvf⟩ := ho.sl.form
          have ho2 : Own w' (fun k => (Value.slice op i oc).ownBlock = some k ∨ k = wd.heap.size + 1) 54 7 v' (l.length + 1) (posC num l ++ poC num (poOf (dataF s1 num) ⟨dst, kind, node, hops, set, false⟩, .slice none 0 0)) := by rw [HLL.out]; exact ho
          have HN := Lib.hid (por_next HPK.out.1 HPK.out.2.1 HPK.out.2.2.1 HPK.out.2.2.2.1 HPK.out.2.2.2.2.1 HPK.out.2.2.2.2.2 HX.out HcD.out HD.out HSDn.out HCA.out ho2 (by simp) hg)
          subst hvf
          clear ho hg hn ho2 oX sX one b1 b2 p0 p1 p2 p3 p4 p5 p6 pl
          have ew : wrap64 ((i : Int) + 1) = (i : Int) + 1 := IntWalk.wrap64_in _ (by have := HW0.out.2.2.2.2.1; omega)
          go_wp2_with fail
          go_roundg (ls.length - (i + 1))
          case rel =>
            have := HW0.out.2.2.2.2.1
            exact ⟨i + 1, vp, vc, by omega, by go_num, rfl, HN.out⟩
          case measure => have := HK.out; omega
        · have p7 := HLb.out.cell' (i := 7) (v := .bool true) rfl
          have pl := HLb.out.lt
          have h2 := (HcP.out.step HcL.out).cell (HH1.out.cell' (i := 2) (v := .pointer (some ⟨L.pb, 0, none⟩)) rfl) id
          have hl := Nat.lt_of_lt_of_le HH1.out.lt (HcP.out.step HcL.out).size
          go_wp2_with fail
          refine (HDt.out _ (HcP.out.step HcL.out)).mono ?_
          rintro e w3 ⟨dv3, rfl, hO3, c3⟩
          have HTr := Lib.hid (trim_any hO3.sl HBy.out (by omega) (by omega))
          obtain ⟨d3p, d3c, rfl⟩ := hO3.sl.form
          have Hc3 := Lib.hid c3
          clear p7 pl h2 hl hO3 c3
          go_wp2_with fail
          refine HTr.out.mono ?_
          rintro e w4 ⟨dv4, rfl, hO4, c4⟩
          obtain ⟨d4p, d4c, rfl⟩ := hO4.sl.form
          have HLb4 := c4.blk0 (Hc3.out.blk0 HLb.out)
          have p6 := HLb4.cell' (i := 6) (v := .slice none 0 0) rfl
          have pz := HLb4.frozen 6
          have pl := HLb4.lt
          have HO4 := Lib.hid hO4
          have Hc4 := Lib.hid c4
          have HLb5 := Lib.hid (HLb4.set 6 (.slice d4p (trimN (dataF s1 num) 4096) d4c))
          clear hO4 c4 HLb4
          go_upto_region 9 with fail
          clear p6 pz pl
          have HLb3 := Lib.hid (And.intro (Hc3.out.blk0 HLb.out).lt (Nat.le_refl lb))
          have HcD : Hid (Chg NoB wr (w4.setCell ⟨lb, 6, none⟩ (.slice d4p (trimN (dataF s1 num) 4096) d4c))) := Lib.hid (((HcL.out.step Hc3.out).step Hc4.out).setCell (a := ⟨lb, 6, none⟩) (.inr (by rw [← HLBE.out]; exact Nat.le_refl _)) _)
          have HD : Hid (DatW (w4.setCell ⟨lb, 6, none⟩ (.slice d4p (trimN (dataF s1 num) 4096) d4c)) (fun k => w3.heap.size ≤ k ∧ k < w4.heap.size) (.slice d4p (trimN (dataF s1 num) 4096) d4c) (some (dataF s1 num))) := Lib.hid ⟨(HO4.out.sl.monoIn (S' := fun k => w3.heap.size ≤ k ∧ k < w4.heap.size) fun k h1 h2 => ⟨h2, h1⟩).chg ((Chg.refl (fun k => k = lb) w4).setCell (a := ⟨lb, 6, none⟩) (.inl rfl) _) fun k hk (e : k = lb) => by have := HLb3.out.1; omega, HBy.out⟩
          have HSDn : Hid (∀ k, (fun k => w3.heap.size ≤ k ∧ k < w4.heap.size) k → wr.heap.size ≤ k ∧ k < (w4.setCell ⟨lb, 6, none⟩ (.slice d4p (trimN (dataF s1 num) 4096) d4c)).heap.size) := Lib.hid fun k hk => ⟨Nat.le_trans (HcL.out.step Hc3.out).size hk.1, by rw [World.size_setCell]; exact hk.2⟩
          have HLbD := HLb5
          clear HLb HcL HLb5 HLb3 HO4 Hc3 Hc4
          generalize w4.setCell ⟨lb, 6, none⟩ (.slice d4p (trimN (dataF s1 num) 4096) d4c) = wd at *
          obtain ⟨l, SO, SD, k1, k2, k3, k4, k5, k6⟩ := HPo.out
          have hll : l.length = i := by
            have := congrArg List.length k1
            rw [List.length_map, List.length_map, List.length_take] at this
            omega
          have HPK := Lib.hid (And.intro k1 (And.intro k2 (And.intro k3 (And.intro k4 (And.intro k5 k6)))))
          have hO := k2
          rw [hll] at hO
          have oX := hO.chg0 (HcD.out.alloc (.cells #[.int .i64 dst, .int .i64 kind, .int .i64 num, .int .i64 node, .int .i64 hops, .int .u16 set, .slice d4p (trimN (dataF s1 num) 4096) d4c] 54))
          have sX := Sl.fresh (size := 7) wd [.int .i64 dst, .int .i64 kind, .int .i64 num, .int .i64 node, .int .i64 hops, .int .u16 set, .slice d4p (trimN (dataF s1 num) 4096) d4c] 54 1 rfl
          have ca := (Chg.refl NoB wd).alloc (.cells #[.int .i64 dst, .int .i64 kind, .int .i64 num, .int .i64 node, .int .i64 hops, .int .u16 set, .slice d4p (trimN (dataF s1 num) 4096) d4c] 54)
          have HCA := Lib.hid ca
          have one : ∀ u ∈ ([.int .i64 dst, .int .i64 kind, .int .i64 num, .int .i64 node, .int .i64 hops, .int .u16 set, .slice d4p (trimN (dataF s1 num) 4096) d4c] : List Value), u.oneCell' = true := by simp [Value.oneCell']
          have b1 : i + 1 ≤ maxLen := by have := HW0.out.2.2.2.2.1; unfold maxLen; omega
          have b2 : (i + 1) * 72 ≤ 140737488355328 := by have := HW0.out.2.2.2.2.1; omega
          have p0 := HLbD.out.cell' (i := 0) (v := .int .i64 dst) rfl
          have p1 := HLbD.out.cell' (i := 1) (v := .int .i64 kind) rfl
          have p2 := HLbD.out.cell' (i := 2) (v := .int .i64 num) rfl
          have p3 := HLbD.out.cell' (i := 3) (v := .int .i64 node) rfl
          have p4 := HLbD.out.cell' (i := 4) (v := .int .i64 hops) rfl
          have p5 := HLbD.out.cell' (i := 5) (v := .int .u16 set) rfl
          have p6 := HLbD.out.cell' (i := 6) (v := .slice d4p (trimN (dataF s1 num) 4096) d4c) rfl
          have pl := HLbD.out.lt
          have HLL := Lib.hid hll
          clear k1 k2 k3 k4 k5 k6 hO ca hll
          go_wp2_with (at_builtin; go_must (refine wpList_app rfl _ _ 35 rfl i0 _ 72 Tryz.underlying35 hi0 hz0 hz1 hz2 rfl rfl oX _ 1 _ rfl sX one b1 b2 ?_))
          intro v' w' ho hg hn
          obtain ⟨vp, vc, hvf⟩ := ho.sl.form
          have ho2 : Own w' (fun k => (Value.slice op i oc).ownBlock = some k ∨ k = wd.heap.size + 1) 54 7 v' (l.length + 1) (posC num l ++ poC num (poOf (dataF s1 num) ⟨dst, kind, node, hops, set, true⟩, .slice d4p (trimN (dataF s1 num) 4096) d4c)) := by rw [HLL.out]; exact ho
          have HN := Lib.hid (por_next HPK.out.1 HPK.out.2.1 HPK.out.2.2.1 HPK.out.2.2.2.1 HPK.out.2.2.2.2.1 HPK.out.2.2.2.2.2 HX.out HcD.out HD.out HSDn.out HCA.out ho2 (by simp) hg)
          subst hvf
          clear ho hg hn ho2 oX sX one b1 b2 p0 p1 p2 p3 p4 p5 p6 pl
          have ew : wrap64 ((i : Int) + 1) = (i : Int) + 1 := IntWalk.wrap64_in _ (by have := HW0.out.2.2.2.2.1; omega)
          go_wp2_with fail
          go_roundg (ls.length - (i + 1))
          case rel =>
            have := HW0.out.2.2.2.2.1
            exact ⟨i + 1, vp, vc, by omega, by go_num, rfl, HN.out⟩
          case measure => have := HK.out; omega
      · have t1 : decide ((i : Int) < ls.length) = false := decide_eq_false (by omega)
        have t2 : decide (i < ls.length) = false := decide_eq_false hi
        obtain rfl : i = ls.length := by have := HK.out; omega
        have HcP := Lib.hid cP
        clear cP
        have cc := Chg.refl NoB wr
        have h1 := (HcP.out.blk0 HB1.out).ever
        have h1l := (HcP.out.blk0 HB1.out).everL
        have h2 := (HcP.out.blk0 HH1.out).ever
        have h2l := (HcP.out.blk0 HH1.out).everL
        go_upto_region 11 with fail
        have HSet : Hid (∀ w', Chg NoB wr w' → Calls Tryz.prog 46 #[.pointer (some ⟨L.pb, 0, none⟩), .int .i64 num, .int .i64 r] w' (RetW (.int .i64 0) fun w'' => ∃ L' : Pl, Ext L1 L' w' ∧ SpAt w'' L' (setF s1 num r).2 ∧ Chg L1.All w' w'')) := Lib.hid fun w' k => by
          have := set_any ((HS1.out.chg0 HcP.out).chg0 k) num r HW0.out.1
          rwa [HP1.out.2] at this
        refine wp_region_mix 7 [(true, 0), (true, 1), (true, 2), (true, 3), (true, 4), (true, 5), (true, 6)] (fun w' => Chg NoB wr w') (by kernel_rfl) (by kernel_rfl) (fun _ _ _ _ _ h => h) (cc.drew) ?_
        simp only [pickMix_nil, pickMix_cons, Option.getD_some, List.getElem?_toArray, List.getElem?_cons_zero, List.getElem?_cons_succ, List.cons_append, List.nil_append, List.drop_succ_cons, List.drop_zero]
        iterate 7
         refine wpMix_take rfl ?_
         apply Exists.intro
         refine ⟨fun wS hS => ?_, ?_⟩
         · try dsimp only at hS
           have cS := hS
           go_simp
           try rfl
         simp only [Act.put, List.setIfInBounds_toArray, List.set_cons_zero, List.set_cons_succ]
        refine wpMix_nil ?_
        go_wp2_with fail
        refine (HSet.out _ cc.drew).mono ?_
        rintro e w5 ⟨rfl, L5, hE5, hS5, hC5⟩
        obtain ⟨l, SO, SD, k1, k2, k3, k4, k5, k6⟩ := HPo.out
        have hLa : ∀ k, L1.All k → k < w1.heap.size := HS1.out.lt
        have hz := (HcP.out.step cc.drew).size
        have HX : Hid (∃ (L' : Pl) (SP : Nat → Prop), Ext L L' w ∧ SpAt w5 L' (setF s1 num r).2 ∧ PosAt w5 SP (.slice op ls.length oc) num (ls.map (poOf (dataF s1 num))) ∧ (∀ k, SP k → w.heap.size ≤ k ∧ k < w5.heap.size ∧ ¬ L'.All k) ∧ Chg L.All w w5) := Lib.hid (by
          have hlt : ∀ k, (SO k ∧ k < wr.heap.size) ∨ SD k → w1.heap.size ≤ k ∧ k < wr.heap.size := fun k hk => hk.elim (fun e => ⟨(k4 k e.1).1, e.2⟩) (k5 k)
          refine ⟨L5, fun k => (SO k ∧ k < wr.heap.size) ∨ SD k, HE1'.out.1.trans hE5 (Nat.le_trans HE1'.out.2.size hz), hS5, ⟨l, by rw [k1, List.take_length], ?_, fun x hx => ?_⟩, fun k hk => ?_, ?_⟩
          · have hll : l.length = ls.length := by
              have := congrArg List.length k1
              rw [List.length_map, List.length_map, List.length_take] at this
              omega
            exact (((k2.sl.monoIn (S' := fun k => (SO k ∧ k < wr.heap.size) ∨ SD k) fun k a b => .inl ⟨b, a⟩).chg0 cc.drew).chg hC5 fun k hk e => by have := hLa k e; have := hlt k hk; omega)
          · exact (((k3 x hx).mono (S' := fun k => (SO k ∧ k < wr.heap.size) ∨ SD k) fun k e => .inr e).chg cc.drew fun _ _ => id).chg hC5 fun k hk e => by have := hLa k e; have := hlt k hk; omega
          · have q := hlt k hk
            have z1 := HE1'.out.2.size
            have z2 := hC5.size
            have z3 := cc.drew.size
            refine ⟨by omega, by omega, fun e => ?_⟩
            rcases hE5.2.2 k e with e | e
            · have := hLa k e; omega
            · omega
          · exact HE1'.out.1.chg (HE1'.out.2.then0 (HcP.out.step cc.drew)) hC5)
        clear hE5 hS5 hC5 k1 k2 k3 k4 k5 k6 hLa hz cc
        go_wp2_with fail
        go_ret
        exact ⟨_, rfl, HX.out⟩
  · have q2 := HH0.out.cell' (i := 2) (v := .pointer (some ⟨L.pb, 0, none⟩)) rfl
    have qhl := HH0.out.lt
    go_wp2_with fail
    refine (HSD0.out (by trivial) _ HC0.out).mono ?_
    rintro e w1 ⟨rfl, L1, hE1, hS1, hC1⟩
    have HE1' : Hid (Ext L L1 w ∧ Chg L.All w w1) := Lib.hid ⟨⟨hE1.1, hE1.2.1, fun k hk => (hE1.2.2 k hk).imp id fun e => Nat.le_trans HC0.out.size e⟩, (HC0.out.mono (S' := L.All) fun _ _ e => e.elim).trans hC1 fun _ _ e => e⟩
    have HS1 := Lib.hid hS1
    have HP1 := Lib.hid (And.intro True.intro hE1.1)
    have HB1 := Lib.hid (hC1.blk HB.out (by rw [← HB0.out]; exact HW0.out.2.2.2.2.2))
    have HH1 := Lib.hid (hC1.blk HH0.out HL0.out.2.2)
    have HL1 := Lib.hid (And.intro (HL0.out.1.chg hC1 HL0.out.2.1) HL0.out.2)
    clear hE1 hS1 hC1 HS0 HB HH0 HL0 HSD0 q0 ql q2 qhl
    go_upto_region 3 with fail
    have HDt := Lib.hid fun w' (c : Chg NoB w1 w') => (by have := data_any (HS1.out.chg0 c) num (by omega) HW0.out.2.2.1 HW0.out.2.1; rwa [HP1.out.2] at this : Calls Tryz.prog 45 #[.pointer (some ⟨L.pb, 0, none⟩), .int .i64 num] w' (RetV fun v w'' => Own w'' (fun k => w'.heap.size ≤ k) 5 1 v 4096 (bcells (dataF s1 num) 4096) ∧ Chg NoB w' w''))
    have HBy : Hid (∀ i, dataF s1 num i < 256) := Lib.hid (data_ok HS1.out num)
    have q2 := HB1.out.cell' (i := 2) (v := .slice p ls.length c) rfl
    have ql := HB1.out.lt
    go_wp2_with fail
    clear q2 ql
    go_loopg [24, 9] ls.length (fun k iv ov wr => ∃ (i : Nat) (op : Option Addr) (oc : Nat), i + k = ls.length ∧ iv = .int .i64 i ∧ ov = .slice op i oc ∧ PoR w1 num (dataF s1 num) ls i (.slice op i oc) wr)
    case atStart => exact ⟨0, none, 0, by omega, rfl, rfl, PoR.start ..⟩
    case round =>
      obtain ⟨i, op, oc, hk, rfl, rfl, hP⟩ := hrel
      rename World => wr
      have HK := Lib.hid hk
      have HPo := Lib.hid hP
      obtain ⟨cP⟩ : Nonempty (Chg NoB w1 wr) := by obtain ⟨_, _, _, _, _, _, _, _, c⟩ := hP; exact ⟨c⟩
      clear hk hP
      by_cases hi : i < ls.length
      · have t1 : decide ((i : Int) < ls.length) = true := decide_eq_true (by omega)
        have t2 : decide (i < ls.length) = true := decide_eq_true hi
        obtain ⟨x, hx⟩ : ∃ x, ls[i]? = some x := ⟨_, List.getElem?_eq_getElem hi⟩
        obtain ⟨-, p', c', hv, hnc, hcell⟩ := HL1.out.1
        cases hv
        obtain ⟨g, off, rfl, -, hgl, hcl⟩ := hcell (by omega)
        have xc : ∀ j, j < 8 → ∀ u, (ltC num x)[j]? = some u → wr.cell? ⟨g, off + (i * 8 + j), none⟩ = some u := fun j hj u hu => cP.cell (hcl _ u ((ltsC_get hx hj).trans hu)) id
        have x0 := xc 0 (by omega) _ rfl
        have x1 := xc 1 (by omega) _ rfl
        have x2 := xc 2 (by omega) _ rfl
        have x3 := xc 3 (by omega) _ rfl
        have x4 := xc 4 (by omega) _ rfl
        have x5 := xc 5 (by omega) _ rfl
        have x6 := xc 6 (by omega) _ rfl
        have x7 := xc 7 (by omega) _ rfl
        simp only [← Nat.add_assoc, Nat.add_zero] at x0 x1 x2 x3 x4 x5 x6 x7
        have xl := Nat.lt_of_lt_of_le hgl cP.size
        have HX := Lib.hid hx
        obtain ⟨dst, kind, node, hops, set, pg⟩ := x
        dsimp only at x0 x1 x2 x3 x4 x5 x6 x7
        clear xc hx hcl hcell hgl hnc
        go_upto_region 7 with fail
        have hLb := Blk.new wr #[.int .i64 dst, .int .i64 kind, .int .i64 num, .int .i64 node, .int .i64 hops, .int .u16 set, .slice none 0 0, .bool pg] 121
        have cL := (Chg.refl NoB wr).alloc (.cells #[.int .i64 dst, .int .i64 kind, .int .i64 num, .int .i64 node, .int .i64 hops, .int .u16 set, .slice none 0 0, .bool pg] 121)
        generalize wr.alloc (.cells #[.int .i64 dst, .int .i64 kind, .int .i64 num, .int .i64 node, .int .i64 hops, .int .u16 set, .slice none 0 0, .bool pg] 121) = wl at *
        obtain ⟨lb, hlb⟩ : ∃ b, wr.heap.size = b := ⟨_, rfl⟩
        have HLBE := Lib.hid hlb
        rw [hlb] at hLb
        simp only [hlb]
        have HLb := Lib.hid hLb
        have HcL := Lib.hid cL
        have HcP := Lib.hid cP
        clear x0 x1 x2 x3 x4 x5 x6 x7 xl hlb hLb cL cP
        cases pg
        · have p7 := HLb.out.cell' (i := 7) (v := .bool false) rfl
          have pl := HLb.out.lt
          go_upto_region 9 with fail
          clear p7 pl
          have HD : Hid (DatW wl (fun _ => False) (.slice none 0 0) none) := Lib.hid rfl
          have HSDn : Hid (∀ k, (fun _ : Nat => False) k → wr.heap.size ≤ k ∧ k < wl.heap.size) := Lib.hid fun k hk => hk.elim
          have HLbD := HLb
          have HcD := HcL
          clear HLb HcL
          generalize wl = wd at *
          obtain ⟨l, SO, SD, k1, k2, k3, k4, k5, k6⟩ := HPo.out
          have hll : l.length = i := by
            have := congrArg List.length k1
            rw [List.length_map, List.length_map, List.length_take] at this
            omega
          have HPK := Lib.hid (And.intro k1 (And.intro k2 (And.intro k3 (And.intro k4 (And.intro k5 k6)))))
          have hO := k2
          rw [hll] at hO
          have oX := hO.chg0 (HcD.out.alloc (.cells #[.int .i64 dst, .int .i64 kind, .int .i64 num, .int .i64 node, .int .i64 hops, .int .u16 set, .slice none 0 0] 54))
          have sX := Sl.fresh (size := 7) wd [.int .i64 dst, .int .i64 kind, .int .i64 num, .int .i64 node, .int .i64 hops, .int .u16 set, .slice none 0 0] 54 1 rfl
          have ca := (Chg.refl NoB wd).alloc (.cells #[.int .i64 dst, .int .i64 kind, .int .i64 num, .int .i64 node, .int .i64 hops, .int .u16 set, .slice none 0 0] 54)
          have HCA := Lib.hid ca
          have one : ∀ u ∈ ([.int .i64 dst, .int .i64 kind, .int .i64 num, .int .i64 node, .int .i64 hops, .int .u16 set, .slice none 0 0] : List Value), u.oneCell' = true := by simp [Value.oneCell']
          have b1 : i + 1 ≤ maxLen := by have := HW0.out.2.2.2.2.1; unfold maxLen; omega
          have b2 : (i + 1) * 72 ≤ 140737488355328 := by have := HW0.out.2.2.2.2.1; omega
          have p0 := HLbD.out.cell' (i := 0) (v := .int .i64 dst) rfl
          have p1 := HLbD.out.cell' (i := 1) (v := .int .i64 kind) rfl
          have p2 := HLbD.out.cell' (i := 2) (v := .int .i64 num) rfl
          have p3 := HLbD.out.cell' (i := 3) (v := .int .i64 node) rfl
          have p4 := HLbD.out.cell' (i := 4) (v := .int .i64 hops) rfl
          have p5 := HLbD.out.cell' (i := 5) (v := .int .u16 set) rfl
          have p6 := HLbD.out.cell' (i := 6) (v := .slice none 0 0) rfl
          have pl := HLbD.out.lt
          have HLL := Lib.hid hll
          clear k1 k2 k3 k4 k5 k6 hO ca hll
          go_wp2_with (at_builtin; go_must (refine wpList_app rfl _ _ 35 rfl i0 _ 72 Tryz.underlying35 hi0 hz0 hz1 hz2 rfl rfl oX _ 1 _ rfl sX one b1 b2 ?_))
          intro v' w' ho hg hn
          obtain ⟨vp, vc, hvf⟩ := ho.sl.form
          have ho2 : Own w' (fun k => (Value.slice op i oc).ownBlock = some k ∨ k = wd.heap.size + 1) 54 7 v' (l.length + 1) (posC num l ++ poC num (poOf (dataF s1 num) ⟨dst, kind, node, hops, set, false⟩, .slice none 0 0)) := by rw [HLL.out]; exact ho
          have HN := Lib.hid (por_next HPK.out.1 HPK.out.2.1 HPK.out.2.2.1 HPK.out.2.2.2.1 HPK.out.2.2.2.2.1 HPK.out.2.2.2.2.2 HX.out HcD.out HD.out HSDn.out HCA.out ho2 (by simp) hg)
          subst hvf
          clear ho hg hn ho2 oX sX one b1 b2 p0 p1 p2 p3 p4 p5 p6 pl
          have ew : wrap64 ((i : Int) + 1) = (i : Int) + 1 := IntWalk.wrap64_in _ (by have := HW0.out.2.2.2.2.1; omega)
          go_wp2_with fail
          go_roundg (ls.length - (i + 1))
          case rel =>
            have := HW0.out.2.2.2.2.1
            exact ⟨i + 1, vp, vc, by omega, by go_num, rfl, HN.out⟩
          case measure => have := HK.out; omega
        · have p7 := HLb.out.cell' (i := 7) (v := .bool true) rfl
          have pl := HLb.out.lt
          have h2 := (HcP.out.step HcL.out).cell (HH1.out.cell' (i := 2) (v := .pointer (some ⟨L.pb, 0, none⟩)) rfl) id
          have hl := Nat.lt_of_lt_of_le HH1.out.lt (HcP.out.step HcL.out).size
          go_wp2_with fail
          refine (HDt.out _ (HcP.out.step HcL.out)).mono ?_
          rintro e w3 ⟨dv3, rfl, hO3, c3⟩
          have HTr := Lib.hid (trim_any hO3.sl HBy.out (by omega) (by omega))
          obtain ⟨d3p, d3c, rfl⟩ := hO3.sl.form
          have Hc3 := Lib.hid c3
          clear p7 pl h2 hl hO3 c3
          go_wp2_with fail
          refine HTr.out.mono ?_
          rintro e w4 ⟨dv4, rfl, hO4, c4⟩
          obtain ⟨d4p, d4c, rfl⟩ := hO4.sl.form
          have HLb4 := c4.blk0 (Hc3.out.blk0 HLb.out)
          have p6 := HLb4.cell' (i := 6) (v := .slice none 0 0) rfl
          have pz := HLb4.frozen 6
          have pl := HLb4.lt
          have HO4 := Lib.hid hO4
          have Hc4 := Lib.hid c4
          have HLb5 := Lib.hid (HLb4.set 6 (.slice d4p (trimN (dataF s1 num) 4096) d4c))
          clear hO4 c4 HLb4
          go_upto_region 9 with fail
          clear p6 pz pl
          have HLb3 := Lib.hid (And.intro (Hc3.out.blk0 HLb.out).lt (Nat.le_refl lb))
          have HcD : Hid (Chg NoB wr (w4.setCell ⟨lb, 6, none⟩ (.slice d4p (trimN (dataF s1 num) 4096) d4c))) := Lib.hid (((HcL.out.step Hc3.out).step Hc4.out).setCell (a := ⟨lb, 6, none⟩) (.inr (by rw [← HLBE.out]; exact Nat.le_refl _)) _)
          have HD : Hid (DatW (w4.setCell ⟨lb, 6, none⟩ (.slice d4p (trimN (dataF s1 num) 4096) d4c)) (fun k => w3.heap.size ≤ k ∧ k < w4.heap.size) (.slice d4p (trimN (dataF s1 num) 4096) d4c) (some (dataF s1 num))) := Lib.hid ⟨(HO4.out.sl.monoIn (S' := fun k => w3.heap.size ≤ k ∧ k < w4.heap.size) fun k h1 h2 => ⟨h2, h1⟩).chg ((Chg.refl (fun k => k = lb) w4).setCell (a := ⟨lb, 6, none⟩) (.inl rfl) _) fun k hk (e : k = lb) => by have := HLb3.out.1; omega, HBy.out⟩
          have HSDn : Hid (∀ k, (fun k => w3.heap.size ≤ k ∧ k < w4.heap.size) k → wr.heap.size ≤ k ∧ k < (w4.setCell ⟨lb, 6, none⟩ (.slice d4p (trimN (dataF s1 num) 4096) d4c)).heap.size) := Lib.hid fun k hk => ⟨Nat.le_trans (HcL.out.step Hc3.out).size hk.1, by rw [World.size_setCell]; exact hk.2⟩
          have HLbD := HLb5
          clear HLb HcL HLb5 HLb3 HO4 Hc3 Hc4
          generalize w4.setCell ⟨lb, 6, none⟩ (.slice d4p (trimN (dataF s1 num) 4096) d4c) = wd at *
          obtain ⟨l, SO, SD, k1, k2, k3, k4, k5, k6⟩ := HPo.out
          have hll : l.length = i := by
            have := congrArg List.length k1
            rw [List.length_map, List.length_map, List.length_take] at this
            omega
          have HPK := Lib.hid (And.intro k1 (And.intro k2 (And.intro k3 (And.intro k4 (And.intro k5 k6)))))
          have hO := k2
          rw [hll] at hO
          have oX := hO.chg0 (HcD.out.alloc (.cells #[.int .i64 dst, .int .i64 kind, .int .i64 num, .int .i64 node, .int .i64 hops, .int .u16 set, .slice d4p (trimN (dataF s1 num) 4096) d4c] 54))
          have sX := Sl.fresh (size := 7) wd [.int .i64 dst, .int .i64 kind, .int .i64 num, .int .i64 node, .int .i64 hops, .int .u16 set, .slice d4p (trimN (dataF s1 num) 4096) d4c] 54 1 rfl
          have ca := (Chg.refl NoB wd).alloc (.cells #[.int .i64 dst, .int .i64 kind, .int .i64 num, .int .i64 node, .int .i64 hops, .int .u16 set, .slice d4p (trimN (dataF s1 num) 4096) d4c] 54)
          have HCA := Lib.hid ca
          have one : ∀ u ∈ ([.int .i64 dst, .int .i64 kind, .int .i64 num, .int .i64 node, .int .i64 hops, .int .u16 set, .slice d4p (trimN (dataF s1 num) 4096) d4c] : List Value), u.oneCell' = true := by simp [Value.oneCell']
          have b1 : i + 1 ≤ maxLen := by have := HW0.out.2.2.2.2.1; unfold maxLen; omega
          have b2 : (i + 1) * 72 ≤ 140737488355328 := by have := HW0.out.2.2.2.2.1; omega
          have p0 := HLbD.out.cell' (i := 0) (v := .int .i64 dst) rfl
          have p1 := HLbD.out.cell' (i := 1) (v := .int .i64 kind) rfl
          have p2 := HLbD.out.cell' (i := 2) (v := .int .i64 num) rfl
          have p3 := HLbD.out.cell' (i := 3) (v := .int .i64 node) rfl
          have p4 := HLbD.out.cell' (i := 4) (v := .int .i64 hops) rfl
          have p5 := HLbD.out.cell' (i := 5) (v := .int .u16 set) rfl
          have p6 := HLbD.out.cell' (i := 6) (v := .slice d4p (trimN (dataF s1 num) 4096) d4c) rfl
          have pl := HLbD.out.lt
          have HLL := Lib.hid hll
          clear k1 k2 k3 k4 k5 k6 hO ca hll
          go_wp2_with (at_builtin; go_must (refine wpList_app rfl _ _ 35 rfl i0 _ 72 Tryz.underlying35 hi0 hz0 hz1 hz2 rfl rfl oX _ 1 _ rfl sX one b1 b2 ?_))
          intro v' w' ho hg hn
          obtain ⟨vp, vc, hvf⟩ := ho.sl.form
          have ho2 : Own w' (fun k => (Value.slice op i oc).ownBlock = some k ∨ k = wd.heap.size + 1) 54 7 v' (l.length + 1) (posC num l ++ poC num (poOf (dataF s1 num) ⟨dst, kind, node, hops, set, true⟩, .slice d4p (trimN (dataF s1 num) 4096) d4c)) := by rw [HLL.out]; exact ho
          have HN := Lib.hid (por_next HPK.out.1 HPK.out.2.1 HPK.out.2.2.1 HPK.out.2.2.2.1 HPK.out.2.2.2.2.1 HPK.out.2.2.2.2.2 HX.out HcD.out HD.out HSDn.out HCA.out ho2 (by simp) hg)
          subst hvf
          clear ho hg hn ho2 oX sX one b1 b2 p0 p1 p2 p3 p4 p5 p6 pl
          have ew : wrap64 ((i : Int) + 1) = (i : Int) + 1 := IntWalk.wrap64_in _ (by have := HW0.out.2.2.2.2.1; omega)
          go_wp2_with fail
          go_roundg (ls.length - (i + 1))
          case rel =>
            have := HW0.out.2.2.2.2.1
            exact ⟨i + 1, vp, vc, by omega, by go_num, rfl, HN.out⟩
          case measure => have := HK.out; omega
      · have t1 : decide ((i : Int) < ls.length) = false := decide_eq_false (by omega)
        have t2 : decide (i < ls.length) = false := decide_eq_false hi
        obtain rfl : i = ls.length := by have := HK.out; omega
        have HcP := Lib.hid cP
        clear cP
        have cc := Chg.refl NoB wr
        have h1 := (HcP.out.blk0 HB1.out).ever
        have h1l := (HcP.out.blk0 HB1.out).everL
        have h2 := (HcP.out.blk0 HH1.out).ever
        have h2l := (HcP.out.blk0 HH1.out).everL
        go_upto_region 11 with fail
        have HSet : Hid (∀ w', Chg NoB wr w' → Calls Tryz.prog 46 #[.pointer (some ⟨L.pb, 0, none⟩), .int .i64 num, .int .i64 r] w' (RetW (.int .i64 0) fun w'' => ∃ L' : Pl, Ext L1 L' w' ∧ SpAt w'' L' (setF s1 num r).2 ∧ Chg L1.All w' w'')) := Lib.hid fun w' k => by
          have := set_any ((HS1.out.chg0 HcP.out).chg0 k) num r HW0.out.1
          rwa [HP1.out.2] at this
        refine wp_region_mix 7 [(true, 0), (true, 1), (true, 2), (true, 3), (true, 4), (true, 5), (true, 6)] (fun w' => Chg NoB wr w') (by kernel_rfl) (by kernel_rfl) (fun _ _ _ _ _ h => h) (cc.drew) ?_
        simp only [pickMix_nil, pickMix_cons, Option.getD_some, List.getElem?_toArray, List.getElem?_cons_zero, List.getElem?_cons_succ, List.cons_append, List.nil_append, List.drop_succ_cons, List.drop_zero]
        iterate 7
         refine wpMix_take rfl ?_
         apply Exists.intro
         refine ⟨fun wS hS => ?_, ?_⟩
         · try dsimp only at hS
           have cS := hS
           go_simp
           try rfl
         simp only [Act.put, List.setIfInBounds_toArray, List.set_cons_zero, List.set_cons_succ]
        refine wpMix_nil ?_
        go_wp2_with fail
        refine (HSet.out _ cc.drew).mono ?_
        rintro e w5 ⟨rfl, L5, hE5, hS5, hC5⟩
        obtain ⟨l, SO, SD, k1, k2, k3, k4, k5, k6⟩ := HPo.out
        have hLa : ∀ k, L1.All k → k < w1.heap.size := HS1.out.lt
        have hz := (HcP.out.step cc.drew).size
        have HX : Hid (∃ (L' : Pl) (SP : Nat → Prop), Ext L L' w ∧ SpAt w5 L' (setF s1 num r).2 ∧ PosAt w5 SP (.slice op ls.length oc) num (ls.map (poOf (dataF s1 num))) ∧ (∀ k, SP k → w.heap.size ≤ k ∧ k < w5.heap.size ∧ ¬ L'.All k) ∧ Chg L.All w w5) := Lib.hid (by
          have hlt : ∀ k, (SO k ∧ k < wr.heap.size) ∨ SD k → w1.heap.size ≤ k ∧ k < wr.heap.size := fun k hk => hk.elim (fun e => ⟨(k4 k e.1).1, e.2⟩) (k5 k)
          refine ⟨L5, fun k => (SO k ∧ k < wr.heap.size) ∨ SD k, HE1'.out.1.trans hE5 (Nat.le_trans HE1'.out.2.size hz), hS5, ⟨l, by rw [k1, List.take_length], ?_, fun x hx => ?_⟩, fun k hk => ?_, ?_⟩
          · have hll : l.length = ls.length := by
              have := congrArg List.length k1
              rw [List.length_map, List.length_map, List.length_take] at this
              omega
            exact (((k2.sl.monoIn (S' := fun k => (SO k ∧ k < wr.heap.size) ∨ SD k) fun k a b => .inl ⟨b, a⟩).chg0 cc.drew).chg hC5 fun k hk e => by have := hLa k e; have := hlt k hk; omega)
          · exact (((k3 x hx).mono (S' := fun k => (SO k ∧ k < wr.heap.size) ∨ SD k) fun k e => .inr e).chg cc.drew fun _ _ => id).chg hC5 fun k hk e => by have := hLa k e; have := hlt k hk; omega
          · have q := hlt k hk
            have z1 := HE1'.out.2.size
            have z2 := hC5.size
            have z3 := cc.drew.size
            refine ⟨by omega, by omega, fun e => ?_⟩
            rcases hE5.2.2 k e with e | e
            · have := hLa k e; omega
            · omega
          · exact HE1'.out.1.chg (HE1'.out.2.then0 (HcP.out.step cc.drew)) hC5)
        clear hE5 hS5 hC5 k1 k2 k3 k4 k5 k6 hLa hz cc
        go_wp2_with fail
        go_ret
        exact ⟨_, rfl, HX.out⟩
end Go.Proofs.YtdjaeoeejcmhdaaGreatDoor
