/- Blocks in memory; the blocks of a program, by the program. No condition. The blocks of a program, by the program. No condition. Two lists of the same blocks are the same. No condition. The law's first words: what must be answered of three instructions. No condition. -/
import Derived.Test.YtapmojfebljjnaaGreatHw
import Derived.Test.YtapmojfebljjnaaGreatHv
set_option linter.unusedVariables false
namespace Go.Proofs.YtapmojfebljjnaaGreat
open Go.RowKit Go.RR

def casts (ns : List Nat) : List Int := ns.map fun n : Nat => (n : Int)
theorem casts_len (ns : List Nat) : (casts ns).length = ns.length := by simp [casts]
theorem casts_snoc (ns : List Nat) (n : Nat) : casts (ns ++ [n]) = casts ns ++ [(n : Int)] := by simp [casts]
theorem casts_at {ns : List Nat} {k : Nat} (h : k < ns.length) : (casts ns)[k]? = some ((ns.getD k 0 : Nat) : Int) := by simp [casts, h]

def kcell (b : Bk) (v : Value) : List Value := [.int .i64 b.1, .int .i64 b.2.1, v]
def kcells : List Bk → List Value → List Value
  | b :: bs, v :: vs => kcell b v ++ kcells bs vs
  | _, _ => []
theorem kcells_at : ∀ (bs : List Bk) (vs : List Value) (i : Nat) (b : Bk) (v : Value), bs[i]? = some b → vs[i]? = some v →
    (kcells bs vs)[i * 3]? = some (.int .i64 b.1) ∧ (kcells bs vs)[i * 3 + 1]? = some (.int .i64 b.2.1) ∧ (kcells bs vs)[i * 3 + 2]? = some v
  | [], _, i, b, v, h, _ => by simp at h
  | g :: bs, [], i, b, v, _, h => by simp at h
  | g :: bs, u :: vs, 0, b, v, h1, h2 => by simp at h1 h2; subst h1 h2; exact ⟨rfl, rfl, rfl⟩
  | g :: bs, u :: vs, i + 1, b, v, h1, h2 => by
    have := kcells_at bs vs i b v (by simpa using h1) (by simpa using h2)
    rw [show (i + 1) * 3 = i * 3 + 3 by omega]
    exact this
theorem kcells_app : ∀ (bs : List Bk) (vs : List Value) (b : Bk) (v : Value), vs.length = bs.length → kcells (bs ++ [b]) (vs ++ [v]) = kcells bs vs ++ kcell b v
  | [], [], b, v, _ => by simp [kcells]
  | [], _ :: _, b, v, h => by simp at h
  | g :: bs, [], b, v, h => by simp at h
  | g :: bs, u :: vs, b, v, h => by
    have := kcells_app bs vs b v (by simpa using h)
    simp only [List.cons_append, kcells, this, List.append_assoc]
/-- The lists that blocks bear. -/
def BRows (w : World) (S : Nat → Prop) (vs : List Value) (bs : List Bk) : Prop :=
  vs.length = bs.length ∧ ∀ (i : Nat) (b : Bk), bs[i]? = some b → ∃ v, vs[i]? = some v ∧ Sl w S 1 v b.2.2.length ((casts b.2.2).map (Value.int .i64))
theorem BRows.nil (w : World) (S : Nat → Prop) : BRows w S [] [] := ⟨rfl, fun i b h => by simp at h⟩
section
variable {w w' : World} {S S' : Nat → Prop} {vs : List Value} {bs : List Bk}
theorem BRows.chg (h : BRows w S vs bs) (c : Chg S' w w') (hs : ∀ k, S k → ¬ S' k) : BRows w' S vs bs :=
  ⟨h.1, fun i b hb => by obtain ⟨v, h1, h2⟩ := h.2 i b hb; exact ⟨v, h1, h2.chg c hs⟩⟩
theorem BRows.monoIn (h : BRows w S vs bs) (hs : ∀ k, k < w.heap.size → S k → S' k) : BRows w S' vs bs :=
  ⟨h.1, fun i b hb => by obtain ⟨v, h1, h2⟩ := h.2 i b hb; exact ⟨v, h1, h2.monoIn hs⟩⟩
theorem BRows.snoc (h : BRows w S vs bs) {v : Value} {b : Bk} (hv : Sl w S 1 v b.2.2.length ((casts b.2.2).map (Value.int .i64))) : BRows w S (vs ++ [v]) (bs ++ [b]) := by
  refine ⟨by simp [h.1], fun i c hc => ?_⟩
  rw [List.getElem?_append] at hc
  split at hc
  · rename_i hi
    obtain ⟨u, h1, h2⟩ := h.2 i c hc
    exact ⟨u, by rw [List.getElem?_append_left (by have := h.1; omega)]; exact h1, h2⟩
  · rename_i hi
    have hi2 : i = bs.length := by have := (List.getElem?_eq_some_iff.1 hc).1; simp at this; omega
    subst hi2
    simp at hc
    subst hc
    exact ⟨v, by rw [List.getElem?_append_right (by have := h.1; omega), h.1]; simp, hv⟩
end
/-- A list of blocks, all in blocks from B on. -/
def BkAt (w : World) (B : Nat) (q : Value) (bs : List Bk) : Prop :=
  ∃ (S1 S2 : Nat → Prop) (vs : List Value), (∀ k, S1 k → (B ≤ k ∧ k < w.heap.size) ∧ ¬ S2 k) ∧ (∀ k, S2 k → B ≤ k ∧ k < w.heap.size) ∧ Own w S1 56 3 q bs.length (kcells bs vs) ∧ BRows w S2 vs bs
theorem BkAt.nil (w : World) (B : Nat) : BkAt w B (.slice none 0 0) [] := ⟨NoB, NoB, [], fun _ h => h.elim, fun _ h => h.elim, Own.nil _ _ _ _, BRows.nil _ _⟩
theorem BkAt.form {w : World} {B : Nat} {q : Value} {bs : List Bk} (h : BkAt w B q bs) : ∃ p c, q = .slice p bs.length c := by obtain ⟨S1, S2, vs, -, -, h, -⟩ := h; exact h.form
theorem BkAt.chg {w w' : World} {B : Nat} {q : Value} {bs : List Bk} {S : Nat → Prop} (h : BkAt w B q bs) (c : Chg S w w') (hs : ∀ k, B ≤ k → k < w.heap.size → ¬ S k) : BkAt w' B q bs := by
  obtain ⟨S1, S2, vs, d1, d2, h1, h2⟩ := h
  have := c.size
  exact ⟨S1, S2, vs, fun k hk => ⟨⟨(d1 k hk).1.1, by have := (d1 k hk).1.2; omega⟩, (d1 k hk).2⟩, fun k hk => ⟨(d2 k hk).1, by have := (d2 k hk).2; omega⟩, h1.chg c fun k hk => hs k (d1 k hk).1.1 (d1 k hk).1.2, h2.chg c fun k hk => hs k (d2 k hk).1 (d2 k hk).2⟩
theorem BkAt.rebuild {w0 w1 w2 : World} {B z : Nat} {S1 S2 Sx T : Nat → Prop} {ob : Option Nat} {vs : List Value} {q2 nv : Value} {bs : List Bk} {b : Bk} (d1 : ∀ k, S1 k → (B ≤ k ∧ k < w0.heap.size) ∧ ¬ S2 k) (d2 : ∀ k, S2 k → B ≤ k ∧ k < w0.heap.size) (hR : BRows w0 S2 vs bs) (C1 : Chg T w0 w1) (hT : ∀ k, T k → w0.heap.size ≤ k)
    (hv : Sl w1 Sx 1 nv b.2.2.length ((casts b.2.2).map (Value.int .i64))) (hSx : ∀ k, Sx k → w0.heap.size ≤ k) (hB : B ≤ w0.heap.size) (hO : Own w2 (fun k => ob = some k ∨ k = z) 56 3 q2 (bs.length + 1) (kcells bs vs ++ kcell b nv)) (hob : ∀ k, ob = some k → S1 k) (hz : w1.heap.size ≤ z) (hz2 : z ≤ w2.heap.size → True) (C2 : Chg (fun k => ob = some k) w1 w2) :
    BkAt w2 B q2 (bs ++ [b]) := by
  have h1 := C1.size
  have h2 := C2.size
  refine ⟨fun k => (ob = some k ∨ k = z) ∧ k < w2.heap.size, fun k => S2 k ∨ (Sx k ∧ k < w1.heap.size), vs ++ [nv], fun k hk => ⟨⟨?_, hk.2⟩, fun e => ?_⟩, fun k hk => ?_, ?_, BRows.snoc ?_ ?_⟩
  · rcases hk.1 with h | h
    · exact (d1 k (hob k h)).1.1
    · omega
  · rcases hk.1 with h | h
    · obtain ⟨a, b⟩ := d1 k (hob k h)
      rcases e with e | e
      · exact b e
      · have := hSx k e.1; omega
    · rcases e with e | e
      · have := (d2 k e).2; omega
      · have := e.2; omega
  · rcases hk with h | h
    · have := d2 k h; omega
    · have := hSx k h.1; have := h.2; omega
  · rw [kcells_app bs vs b nv hR.1, List.length_append]
    exact hO.monoIn fun k a b => ⟨b, a⟩
  · exact ((hR.chg C1 fun k hk e => by have := hT k e; have := (d2 k hk).2; omega).chg C2 fun k hk e => (d1 k (hob k e)).2 hk).monoIn fun k _ hk => .inl hk
  · exact ((hv.monoIn (S' := fun k => Sx k ∧ k < w1.heap.size) fun k a b => ⟨b, a⟩).chg C2 fun k hk e => by have := hSx k hk.1; have := (d1 k (hob k e)).1.2; omega).mono fun k hk => .inr hk

theorem BTinfo : (Tryz.prog.info? 56).map (fun i => (i.zero, i.size, i.bytes)) = some (some (.agg #[.int .i64 0, .int .i64 0, .slice none 0 0]), 3, 40) := by kernel_rfl
theorem INTinfo : (Tryz.prog.info? 3).map (fun i => (i.zero, i.size, i.bytes)) = some (some (.int .i64 0), 1, 8) := by kernel_rfl

/-- The number of a place among rising ones. -/
theorem bsearch_any {S : Nat → Prop} {w : World} {v : Value} {bs : List Nat} (h : Sl w S 1 v bs.length ((casts bs).map (Value.int .i64))) (hp : bs.Pairwise (· < ·)) (h0 : 0 < bs.length) (h1 : bs.length ≤ 1000000) (n : Nat) :
    Calls Tryz.prog 38 #[v, .int .i64 n] w (RetV fun r w' => ∃ ok, r = .tuple #[.int .i64 (cntN bs n), .bool ok] ∧ Chg NoB w w') := by
  obtain ⟨-, p, cap, rfl, hc, hs⟩ := h
  obtain ⟨g, of, rfl, -, hg, hcell⟩ := hs h0
  refine (Tryz.slices_BinarySearch_int g of bs.length cap (casts bs) n w (by rw [casts_len]; omega) (by omega) (fun j hj => ?_) ?_).mono ?_
  · rw [casts_len] at hj
    refine hcell j _ ?_
    rw [List.getElem?_map, casts_at hj]
    simp [casts, hj]
  · rw [List.take_of_length_le (by rw [casts_len]; omega)]
    unfold casts
    rw [List.pairwise_map]
    exact hp.imp fun h => by omega
  · rintro e w' ⟨rfl, q, rfl⟩
    refine ⟨_, rfl, (casts bs).take bs.length |>.contains n, ?_, (Chg.refl _ _).drewN q⟩
    have : ((casts bs).take bs.length).countP (fun x => decide (x < (n : Int))) = cntN bs n := by
      rw [List.take_of_length_le (by rw [casts_len]; omega)]
      unfold casts cntN
      rw [List.countP_map]
      congr 1
      funext p
      simp
    rw [this]
end Go.Proofs.YtapmojfebljjnaaGreat
set_option linter.unusedVariables false
namespace Go.Proofs.YtapmojfebljjnaaGreat
open Go.RowKit Go.RR

theorem BkAt.low {w : World} {B B' : Nat} {q : Value} {bs : List Bk} (h : BkAt w B q bs) (hB : B' ≤ B) : BkAt w B' q bs := by
  obtain ⟨S1, S2, vs, d1, d2, h1, h2⟩ := h
  exact ⟨S1, S2, vs, fun k hk => ⟨⟨by have := (d1 k hk).1.1; omega, (d1 k hk).1.2⟩, (d1 k hk).2⟩, fun k hk => ⟨by have := (d2 k hk).1; omega, (d2 k hk).2⟩, h1, h2⟩
theorem begF_at {l : List In} {k : Nat} (h : k < (begF l).length) : (begF l).getD k 0 ≤ l.length := by
  have hm : (begF l).getD k 0 ∈ begF l := by
    rw [List.getD_eq_getElem?_getD, List.getElem?_eq_getElem h]
    exact List.getElem_mem _
  have := (begF_mem.1 hm).in
  omega
theorem begF_pos {l : List In} {k : Nat} (h : k + 1 < (begF l).length) : 0 < (begF l).getD (k + 1) 0 := by
  have h := List.pairwise_iff_getElem.1 (begF_lt l) k (k + 1) (by omega) h (by omega)
  rw [List.getD_eq_getElem?_getD, List.getElem?_eq_getElem (by assumption)]
  simp only [Option.getD_some]
  omega
theorem cntN_le (bs : List Nat) (n : Nat) : cntN bs n ≤ bs.length := List.countP_le_length

set_option maxHeartbeats 8000000 in
set_option maxRecDepth 100000 in
theorem fblocks_any (S : Nat → Prop) (v : Value) (l : List In) (w : World) (hs : Sl w S 5 v l.length (icells l)) (hl : l.length ≤ 40) (hr : ∀ i ∈ l, rightB i = true) :
    Calls Tryz.prog 14 #[v] w (RetSl fun y w' => BkAt w' w.heap.size y (blocksF l) ∧ Chg NoB w w') := by
  obtain ⟨i0, hi0, hz0, hz1, hz2⟩ := info_parts BTinfo
  obtain ⟨j0, hj0, jz0, jz1, jz2⟩ := info_parts INTinfo
  obtain ⟨pv, cv, rfl⟩ := hs.form
  have hs' := hs.monoIn (S' := fun k => k < w.heap.size) fun k h _ => h
  have HS := Lib.hid hs'
  have HR := Lib.hid hr
  have HBG := Lib.hid (begins_any _ _ l w hs' hl hr)
  clear hs hs' hr
  by_cases h0 : l.length = 0
  · have e : blocksF l = [] := by unfold blocksF; rw [if_pos h0]
    have q0 : ((l.length : Int) == 0) = true := by simp [h0]
    have q0' : (l.length == 0) = true := by simp [h0]
    have E := Lib.hid e
    clear e h0 HBG
    go_enter Tryz.func14, Tryz.ntmps14
    go_wp2_with fail
    go_ret
    exact ⟨_, rfl, by rw [E.out]; exact BkAt.nil _ _, Chg.refl _ _⟩
  · have q0 : ((l.length : Int) == 0) = false := by rw [beq_eq_false_iff_ne]; omega
    have q0' : (l.length == 0) = false := by rw [beq_eq_false_iff_ne]; omega
    have e := blocksF_P h0
    have hF2 := begF_two (l := l) (by omega)
    have hFl := begF_len l
    have hFp := begF_lt l
    obtain ⟨m, hm⟩ : ∃ m, (begF l).length = m + 1 := ⟨(begF l).length - 1, by omega⟩
    rw [hm, Nat.add_sub_cancel] at e
    have E := Lib.hid e
    have HM := Lib.hid hm
    have HFP := Lib.hid hFp
    have hm1 : 1 ≤ m ∧ m ≤ 40 := by omega
    obtain ⟨hm1, hm2⟩ := hm1
    clear e h0 hF2 hFl hFp hm
    go_enter Tryz.func14, Tryz.ntmps14
    go_wp2_with fail
    refine HBG.out.mono ?_
    rintro e wb ⟨fv, rfl, ks, k1, k2, k3, k4⟩
    have hks := begins_eq k1 k2
    subst hks
    have k3 : Own wb (fun k => w.heap.size ≤ k) 3 1 fv (begF l).length ((casts (begF l)).map (Value.int .i64)) := by rw [List.length_map] at k3; exact k3
    have k5 := k3.sl.monoIn (S' := fun k => k < wb.heap.size) fun k h _ => h
    obtain ⟨-, pf, cf, e1, hcf, hcells⟩ := k5
    have k6 := k3.sl.monoIn (S' := fun k => k < wb.heap.size) fun k h _ => h
    rw [HM.out] at hcells hcf e1
    subst e1
    obtain ⟨gf, of, rfl, hgf, -, hcell⟩ := hcells (by omega)
    have hc : ∀ j, j < m + 1 → wb.cell? ⟨gf, of + j, none⟩ = some (.int .i64 ((begF l).getD j 0 : Nat)) := fun j hj => hcell j _ (by rw [List.getElem?_map, casts_at (by rw [HM.out]; exact hj)]; rfl)
    have HCL := Lib.hid hc
    have HFS := Lib.hid k6
    have HC0 := Lib.hid k4
    clear k1 k2 k3 k4 k6 hcells hcell hc
    go_wp2_with fail
    go_loopg [4, 23] m (fun gk ov ix wr => ∃ k : Nat, k + gk = m ∧ ix = .int .i64 k ∧ BkAt wr wb.heap.size ov ((List.range k).map (bkP l)) ∧ Chg NoB w wr ∧ Chg (fun q => wb.heap.size ≤ q) wb wr)
    case atStart => exact ⟨0, by omega, rfl, BkAt.nil _ _, HC0.out, Chg.refl _ _⟩
    case round =>
      obtain ⟨k, hk, rfl, hB, hC, hCb⟩ := hrel
      rename World => wr
      have HK := Lib.hid hk
      have HB := Lib.hid hB
      have HC := Lib.hid hC
      have HCb := Lib.hid hCb
      have hkl : k ≤ m := by omega
      have hzb := hCb.size
      obtain ⟨po, co, rfl⟩ := hB.form
      rw [List.length_map, List.length_range] at HB ⊢
      clear hk hB hC hCb
      by_cases hlt : k < m
      · obtain ⟨f, hf⟩ : ∃ f, (begF l).getD k 0 = f := ⟨_, rfl⟩
        have hpos := begF_pos (l := l) (k := k) (by rw [HM.out]; omega)
        obtain ⟨q, hq⟩ : ∃ q, (begF l).getD (k + 1) 0 = q + 1 := ⟨(begF l).getD (k + 1) 0 - 1, by omega⟩
        have hfl : f ≤ l.length := by rw [← hf]; exact begF_at (by rw [HM.out]; omega)
        have hql : q + 1 ≤ l.length := by rw [← hq]; exact begF_at (by rw [HM.out]; omega)
        have a0 := HCb.out.cell (HCL.out k (by omega)) (fun e => by have e : wb.heap.size ≤ gf := e; have hgf : gf < wb.heap.size := hgf; omega)
        have a1 := HCb.out.cell (HCL.out (k + 1) (by omega)) (fun e => by have e : wb.heap.size ≤ gf := e; have hgf : gf < wb.heap.size := hgf; omega)
        rw [hf] at a0
        rw [hq, show ((q + 1 : Nat) : Int) = (q : Int) + 1 by omega] at a1
        have hbk : bkP l k = (f, q + 1, (nxN l q).map (cntN (begF l))) := by unfold bkP; rw [hf, hq]; rfl
        have HBK := Lib.hid hbk
        have l0 : (0 : Int) ≤ k := by omega
        have l1 : (k : Int) < m := by omega
        have l2 : (k : Int) + 1 < m + 1 := by omega
        have hgw : gf < wr.heap.size := Nat.lt_of_lt_of_le hgf hzb
        have A0 := (Chg.refl NoB wr).alloc (.cells #[.int .i64 f, .int .i64 ((q : Int) + 1), .slice none 0 0] 56)
        have B0 := Blk.new wr #[.int .i64 f, .int .i64 ((q : Int) + 1), .slice none 0 0] 56
        have hz4 := A0.size
        have hz4' : (wr.alloc (.cells #[.int .i64 f, .int .i64 ((q : Int) + 1), .slice none 0 0] 56)).heap.size = wr.heap.size + 1 := by simp
        have HA0 := Lib.hid A0
        have HB0 := Lib.hid B0
        have HSN := Lib.hid (HS.out.chg (HC.out.step A0) fun k hk e => e)
        clear hpos hf hq hbk A0 B0
        go_wp2_with fail
        refine (fnext_any _ _ l q _ HSN.out hl HR.out).mono ?_
        rintro e w6 ⟨v6, rfl, hI, C6⟩
        rw [nextF_nx] at hI
        obtain ⟨p6, d6, rfl, hP6⟩ := hI.place
        obtain ⟨ns, hns⟩ : ∃ ns, nxN l q = ns := ⟨_, rfl⟩
        have hn2 : ns.length ≤ 2 := by rw [← hns, nxN_len]; exact nextF_len _ _
        have HHI := Lib.hid hP6
        rw [hns] at HHI HBK ⊢
        have HB6 := Lib.hid (C6.blk0 HB0.out)
        have hz6 := C6.size
        have HC6 := Lib.hid ((HA0.out.mono (S' := fun z => wr.heap.size ≤ z) fun _ _ h => h.elim).then0 C6)
        clear hI hP6 hns C6 a0 a1
        go_wp2_with fail
        go_loopg [41] ns.length (fun gk ix wx => ∃ (k2 : Nat) (nv : Value) (Sx : Nat → Prop), k2 + gk = ns.length ∧ ix = .int .i64 k2 ∧ Blk wx wr.heap.size #[.int .i64 f, .int .i64 ((q : Int) + 1), nv] 56 ∧ Own wx Sx 3 1 nv k2 ((casts ((ns.take k2).map (cntN (begF l)))).map (Value.int .i64)) ∧ (∀ z, Sx z → w6.heap.size ≤ z) ∧ Chg (fun z => z = wr.heap.size ∨ w6.heap.size ≤ z) w6 wx)
        case atStart => exact ⟨0, _, NoB, by omega, rfl, HB6.out, Own.nil _ _ _ _, fun _ h => h.elim, Chg.refl _ _⟩
        case round =>
          obtain ⟨k2, nv, Sx, hk2, rfl, hBx, hOx, hSx, hCx⟩ := hrel
          rename World => wx
          have HK2 := Lib.hid hk2
          have HBX := Lib.hid hBx
          have HOX := Lib.hid hOx
          have HSX := Lib.hid hSx
          have HCX := Lib.hid hCx
          have hk2l : k2 ≤ ns.length := by omega
          obtain ⟨pn, cn, rfl⟩ := hOx.form
          have hzx := hCx.size
          have HCW := Lib.hid (HC6.out.trans hCx fun z hz e => by rcases e with e | e <;> (show wr.heap.size ≤ z; omega))
          clear hk2 hBx hOx hSx hCx
          by_cases hlt2 : k2 < ns.length
          · obtain ⟨n, hn⟩ : ∃ n, ns[k2]? = some n := ⟨ns[k2], by simp [hlt2]⟩
            obtain ⟨hcap, g1, o1, rfl, hgB, hg1, x0⟩ := HHI.out k2 n hn
            have x0 := HCX.out.cell x0 (fun e => by rcases e with e | e <;> (have e : _ := e; simp only at e; omega))
            have hFx := HFS.out.chg (HCb.out.trans HCW.out fun z hz e => by have e : wr.heap.size ≤ z := e; show wb.heap.size ≤ z; omega) fun z hz e => by have e : wb.heap.size ≤ z := e; have hz : z < wb.heap.size := hz; omega
            have htk : (ns.take (k2 + 1)).map (cntN (begF l)) = (ns.take k2).map (cntN (begF l)) ++ [cntN (begF l) n] := by rw [List.take_add_one, hn]; simp
            have hcl := cntN_le (begF l) n
            rw [HM.out] at hcl hFx
            have HTK := Lib.hid htk
            have HFX := Lib.hid hFx
            have k0 : (0 : Int) ≤ k2 := by omega
            have k1 : (k2 : Int) < ns.length := by omega
            obtain ⟨cnt, hcnt⟩ : ∃ c, cntN (begF l) n = c := ⟨_, rfl⟩
            have HCNT := Lib.hid hcnt
            rw [hcnt] at hcl
            clear hn htk hFx hgB hcnt
            go_wp2_with fail
            refine (bsearch_any (bs := begF l) (by rw [HM.out]; exact HFX.out) HFP.out (by rw [HM.out]; omega) (by rw [HM.out]; omega) n).mono ?_
            rintro e w7 ⟨_, rfl, ok, rfl, C7⟩
            rw [HCNT.out]
            have B7 := C7.blk0 HBX.out
            have y2 := B7.cell' (i := 2) (v := .slice pn k2 cn) (by rfl)
            have yl := B7.lt
            have O7 := HOX.out.chg0 C7
            have A7 := (Chg.refl NoB w7).alloc (.cells #[.int .i64 (cnt : Nat)] 3)
            have oA := O7.chg0 A7
            have sA : Sl (w7.alloc (.cells #[.int .i64 (cnt : Nat)] 3)) _ 1 (.slice (some ⟨w7.heap.size, 0, none⟩) 1 1) 1 [.int .i64 (cnt : Nat)] := Sl.fresh w7 [.int .i64 (cnt : Nat)] 3 1 rfl
            have one1 : ∀ u ∈ [Value.int .i64 (cnt : Nat)], u.oneCell' = true := by simp [Value.oneCell']
            have b1 : k2 + 1 ≤ maxLen := by unfold maxLen; omega
            have b2 : (k2 + 1) * 8 ≤ 140737488355328 := by omega
            have hz7 := C7.size
            have HOB := Lib.hid O7.ownBlock
            have HB7 := Lib.hid B7
            have HC7 := Lib.hid C7
            clear B7 O7 C7 x0
            go_wp2_with (at_builtin; go_must (refine wpList_app rfl _ _ 54 rfl j0 _ 8 Tryz.underlying54 hj0 jz0 jz1 jz2 rfl rfl oA _ 1 _ rfl sA one1 b1 b2 ?_))
            intro v8 w8 o8 g8 _
            have C8 : Chg (fun z => Value.ownBlock (.slice pn k2 cn) = some z) w7 w8 := (A7.mono (fun _ _ h => h.elim)).grown g8 (fun z hz => .inl hz)
            have B8 := C8.blk HB7.out (fun e => by have := HSX.out _ (HOB.out _ e).1; omega)
            have yf := B8.frozen 2
            have y28 := B8.cell' (i := 2) (v := .slice pn k2 cn) (by rfl)
            have yl8 := B8.lt
            have hz8 := C8.size
            obtain ⟨p8, c8, rfl⟩ := o8.form
            have HO8 := Lib.hid o8
            have HB8 := Lib.hid B8
            have HC8 := Lib.hid C8
            clear o8 g8 oA sA one1 b1 b2 A7 C8 B8 y2
            go_wp2_with fail
            have CS := (Chg.refl (· = wr.heap.size) w8).setCell (a := ⟨wr.heap.size, 2, none⟩) (.inl rfl) (.slice p8 (k2 + 1) c8)
            go_roundg (ns.length - (k2 + 1))
            case measure => have := HK2.out; omega
            case rel =>
              refine ⟨k2 + 1, _, fun z => Value.ownBlock (.slice pn k2 cn) = some z ∨ w7.heap.size ≤ z, by have := HK2.out; omega, by go_num, HB8.out.set 2 _, ?_, fun z hz => ?_, ?_⟩
              · rw [HTK.out, HCNT.out, casts_snoc, List.map_append, List.map_take, List.map_cons, List.map_nil]
                refine (HO8.out.mono (S' := fun z => Value.ownBlock (.slice pn k2 cn) = some z ∨ w7.heap.size ≤ z) fun z h => h.elim .inl (fun h => .inr (by first | (rw [h]; simp) | omega))).chg CS fun z hz e => ?_
                have e : z = wr.heap.size := e
                rcases hz with h | h
                · have := HSX.out _ (HOB.out _ h).1; omega
                · omega
              · rcases hz with h | h
                · exact HSX.out _ (HOB.out _ h).1
                · omega
              · refine ((HCX.out.then0 HC7.out).trans HC8.out fun z hz e => .inr (HSX.out _ (HOB.out _ e).1)).trans CS fun z hz e => .inl e
          · obtain rfl : k2 = ns.length := by omega
            obtain ⟨S1, S2, vs, d1, d2, hO, hRr⟩ := HB.out
            have y0 := HBX.out.cell' (i := 0) (v := .int .i64 f) (by rfl)
            have y1 := HBX.out.cell' (i := 1) (v := .int .i64 ((q : Int) + 1)) (by rfl)
            have y2 := HBX.out.cell' (i := 2) (v := .slice pn ns.length cn) (by rfl)
            have yl := HBX.out.lt
            have O9 := hO.chg HCW.out fun z hz e => by have := (d1 z hz).1.2; have e : wr.heap.size ≤ z := e; omega
            rw [List.length_map, List.length_range] at O9
            have A9 := (Chg.refl NoB wx).alloc (.cells #[.int .i64 f, .int .i64 ((q : Int) + 1), .slice pn ns.length cn] 56)
            have oA := O9.chg0 A9
            have sA : Sl (wx.alloc (.cells #[.int .i64 f, .int .i64 ((q : Int) + 1), .slice pn ns.length cn] 56)) _ 3 (.slice (some ⟨wx.heap.size, 0, none⟩) 1 1) 1 [.int .i64 f, .int .i64 ((q : Int) + 1), .slice pn ns.length cn] := Sl.fresh wx [.int .i64 f, .int .i64 ((q : Int) + 1), .slice pn ns.length cn] 56 1 rfl
            have one1 : ∀ u ∈ [Value.int .i64 f, .int .i64 ((q : Int) + 1), .slice pn ns.length cn], u.oneCell' = true := by simp [Value.oneCell']
            have b1 : k + 1 ≤ maxLen := by unfold maxLen; omega
            have b2 : (k + 1) * 40 ≤ 140737488355328 := by omega
            have HOB := Lib.hid O9.ownBlock
            have HD1 := Lib.hid d1
            have HD2 := Lib.hid d2
            have HRR := Lib.hid hRr
            clear d1 d2 hO hRr O9
            go_wp2_with (at_builtin; go_must (refine wpList_app rfl _ _ 52 rfl i0 _ 40 Tryz.underlying52 hi0 hz0 hz1 hz2 rfl rfl oA _ 1 _ rfl sA one1 b1 b2 ?_))
            intro v10 w10 o10 g10 _
            have C10 : Chg (fun z => Value.ownBlock (.slice po k co) = some z) wx w10 := (A9.mono (fun _ _ h => h.elim)).grown g10 (fun z hz => .inl hz)
            have HO10 := Lib.hid o10
            have HC10 := Lib.hid C10
            have hza : (wx.alloc (.cells #[.int .i64 f, .int .i64 ((q : Int) + 1), .slice pn ns.length cn] 56)).heap.size = wx.heap.size + 1 := by simp
            clear o10 g10 oA sA one1 b1 b2 A9 C10 y0 y1 y2
            go_wp2_with fail
            go_roundg (m - (k + 1))
            case measure => have := HK.out; omega
            case rel =>
              have hbs : (List.range (k + 1)).map (bkP l) = (List.range k).map (bkP l) ++ [(f, q + 1, ns.map (cntN (begF l)))] := by rw [List.range_succ, List.map_append, List.map_cons, List.map_nil, HBK.out]
              have hcw := HCW.out.size
              refine ⟨k + 1, by have := HK.out; omega, by go_num, ?_, ?_, ?_⟩
              · rw [hbs]
                refine BkAt.rebuild (z := wx.heap.size + 1) HD1.out HD2.out HRR.out HCW.out (fun _ h => h) (nv := .slice pn ns.length cn) (Sx := Sx) ?_ (fun z hz => by have := HSX.out z hz; omega) hzb ?_ (fun z hz => (HOB.out z hz).1) (by omega) (fun _ => trivial) HC10.out
                · have := HOX.out.sl
                  rw [List.take_length] at this
                  simpa using this
                · have h := HO10.out
                  simpa [kcell] using h
              · exact (HC.out.trans HCW.out fun z hz e => by have e : wr.heap.size ≤ z := e; have := HC.out.size; omega).trans HC10.out fun z hz e => by have := (HD1.out z (HOB.out z e).1).1.1; have := HC0.out.size; omega
              · exact (HCb.out.trans HCW.out fun z hz e => by have e : wr.heap.size ≤ z := e; show wb.heap.size ≤ z; omega).trans HC10.out fun z hz e => by have := (HD1.out z (HOB.out z e).1).1.1; exact this
      · obtain rfl : k = m := by omega
        go_wp2_with fail
        go_ret
        have hzw := HC0.out.size
        exact ⟨_, rfl, by rw [E.out]; exact HB.out.low hzw, HC.out⟩
end Go.Proofs.YtapmojfebljjnaaGreat
set_option linter.unusedVariables false
namespace Go.Proofs.YtapmojfebljjnaaGreat
open Go.RowKit Go.RR


theorem BkAt.spot {w : World} {B : Nat} {p : Option Addr} {n c : Nat} {bs : List Bk} (h : BkAt w B (.slice p n c) bs) {i : Nat} {b : Bk} (hi : bs[i]? = some b) :
    n ≤ c ∧ ∃ g of pv cv, p = some ⟨g, of, none⟩ ∧ g < w.heap.size ∧ w.cell? ⟨g, of + i * 3, none⟩ = some (.int .i64 b.1) ∧ w.cell? ⟨g, of + i * 3 + 1, none⟩ = some (.int .i64 b.2.1) ∧ w.cell? ⟨g, of + i * 3 + 2, none⟩ = some (.slice pv b.2.2.length cv) ∧ IAt w (.slice pv b.2.2.length cv) (casts b.2.2) := by
  obtain ⟨S1, S2, vs, -, -, hO, hR⟩ := h
  obtain ⟨v, hv, hs⟩ := hR.2 i b hi
  obtain ⟨k0, k1, k2⟩ := kcells_at bs vs i b v hi hv
  have hI : IAt w v (casts b.2.2) := ⟨S2, by rw [casts_len]; exact hs⟩
  obtain ⟨pv, cv, rfl⟩ := hs.form
  obtain ⟨-, p', c', e, hc, hcell⟩ := hO.sl
  cases e
  obtain ⟨g, of, hp, -, hg, hx⟩ := hcell (by have := (List.getElem?_eq_some_iff.1 hi).1; omega)
  exact ⟨hc, g, of, pv, cv, hp, hg, hx _ _ k0, by rw [Nat.add_assoc]; exact hx _ _ k1, by rw [Nat.add_assoc]; exact hx _ _ k2, hI⟩

end Go.Proofs.YtapmojfebljjnaaGreat
set_option linter.unusedVariables false
namespace Go.Proofs.YtapmojfebljjnaaGreat
open Go.RowKit Go.RR

def I1 : In := ⟨1, 1, 0, 0, 3⟩
def I2 : In := ⟨2, 1, 1, 0, -1⟩
def I3 : In := ⟨16, 0, 1, 0, -1⟩
def L0 : List In := [I1, I2, I3]
def L1 : List In := [I1, I2]
def L2 : List In := [I2, I3]
theorem L0_right : ∀ i ∈ L0, rightB i = true := by decide
theorem L1_right : ∀ i ∈ L1, rightB i = true := by decide
theorem L2_right : ∀ i ∈ L2, rightB i = true := by decide
theorem L0_blocks : blocksF L0 = [(0, 1, [1]), (1, 3, [1, 2])] := by kernel_rfl
theorem L0_loops : loopF (nxN L0) L0.length = true := by kernel_rfl
theorem L1_loops : loopF (nxN L1) L1.length = false := by kernel_rfl
theorem L1_long : longF L1 = 2 := by kernel_rfl
theorem L0_raw : rawF (nxN L0) L0.length (wrN L0) (rdN L0) = 0 := by kernel_rfl
theorem L2_raw : rawF (nxN L2) L2.length (wrN L2) (rdN L2) = 2 := by kernel_rfl
theorem L0_reach : ((fromF (nxN L0) L0.length [0]).take L0.length).length = 3 := by kernel_rfl

set_option maxHeartbeats 4000000 in
set_option maxRecDepth 100000 in
theorem first31_any (w : World) : Calls Tryz.prog 4 #[] w (RetW (.bool true) fun w' => Chg NoB w w') := by
  have A1 := (Chg.refl NoB w).alloc (.cells (icells L0).toArray 41)
  have B1 := Blk.new w (icells L0).toArray 41
  have S0 : Sl (w.alloc (.cells (icells L0).toArray 41)) (fun k => k = w.heap.size) 5 (.slice (some ⟨w.heap.size, 0, none⟩) 3 3) L0.length (icells L0) := Sl.fresh w (icells L0) 41 3 rfl
  have S1 : Sl (w.alloc (.cells (icells L0).toArray 41)) (fun k => k = w.heap.size) 5 (.slice (some ⟨w.heap.size, 0, none⟩) 2 3) L1.length (icells L1) := by
    refine Sl.of (n := 2) rfl (by decide) rfl B1.lt fun j u hu => B1.cell' ?_
    have e : icells L0 = icells L1 ++ icells [I3] := rfl
    rw [Nat.zero_add, List.getElem?_toArray, e, List.getElem?_append_left (List.getElem?_eq_some_iff.1 hu).1]
    exact hu
  have S2 : Sl (w.alloc (.cells (icells L0).toArray 41)) (fun k => k = w.heap.size) 5 (.slice (some ⟨w.heap.size, 5, none⟩) 2 2) L2.length (icells L2) := by
    refine Sl.of (n := 2) rfl (by decide) rfl B1.lt fun j u hu => B1.cell' ?_
    have e : icells L0 = icells [I1] ++ icells L2 := rfl
    have hl : (icells [I1]).length = 5 := rfl
    rw [List.getElem?_toArray, e, List.getElem?_append_right (by rw [hl]; omega), hl, Nat.add_sub_cancel_left]
    exact hu
  have HA1 := Lib.hid A1
  have HS0 := Lib.hid S0
  have HS1 := Lib.hid S1
  have HS2 := Lib.hid S2
  clear A1 B1 S0 S1 S2
  go_enter Tryz.func4, Tryz.ntmps4
  go_wp2_with fail
  refine (fblocks_any _ _ L0 _ HS0.out (by decide) L0_right).mono ?_
  rintro e w1 ⟨y, rfl, hB, C1⟩
  rw [L0_blocks] at hB
  obtain ⟨pb, cb, rfl⟩ := hB.form
  have HBk := Lib.hid hB
  have HC1 := Lib.hid C1
  clear hB C1
  go_wp2_with fail
  refine (flongest_any _ _ L1 _ (HS1.out.chg0 HC1.out) (by decide) L1_right).mono ?_
  rintro e w2 ⟨rfl, C2⟩
  rw [L1_long, L1_loops]
  have HC2 := Lib.hid (HC1.out.step C2)
  obtain ⟨hcb, g, of, pv, cv, rfl, hg, a0, a1, a2, aI⟩ := (HBk.out.chg C2 fun _ _ _ => id).spot (i := 0) (b := (0, 1, [1])) rfl
  obtain ⟨-, g', of', pv', cv', he, -, b0, b1, b2, bI⟩ := (HBk.out.chg C2 fun _ _ _ => id).spot (i := 1) (b := (1, 3, [1, 2])) rfl
  cases he
  have HI1 := Lib.hid bI
  clear C2 a0 a2 aI b0 b1 bI HBk
  simp only [Nat.zero_mul, Nat.one_mul, Nat.add_zero, Nat.add_assoc, Nat.reduceAdd, List.length_cons, List.length_nil, Nat.zero_add] at a1 b2 hcb
  go_wp2_with fail
  refine (ints_any _ _ [1, 2] [1, 2] _ (HI1.out.chg0 ((Chg.refl NoB w2).alloc _)) (IAt.fresh w2 [1, 2]) (by decide) (by decide)).mono ?_
  rintro e w3 ⟨rfl, C3⟩
  have HC3 := Lib.hid (HC2.out.trans (((Chg.refl NoB w2).alloc _).step C3) (fun _ _ h => h))
  clear C3
  go_wp2_with fail
  refine (floops_any _ _ L0 _ (HS0.out.chg0 HC3.out) (by decide) L0_right).mono ?_
  rintro e w4 ⟨rfl, C4⟩
  rw [L0_loops]
  have HC4 := Lib.hid (HC3.out.step C4)
  clear C4
  go_wp2_with fail
  refine (fraw_any _ _ L0 _ (HS0.out.chg0 HC4.out) (by decide) L0_right).mono ?_
  rintro e w5 ⟨rfl, C5⟩
  rw [L0_raw]
  have HC5 := Lib.hid (HC4.out.step C5)
  clear C5
  go_wp2_with fail
  refine (fraw_any _ _ L2 _ (HS2.out.chg0 HC5.out) (by decide) L2_right).mono ?_
  rintro e w6 ⟨rfl, C6⟩
  rw [L2_raw]
  have HC6 := Lib.hid (HC5.out.step C6)
  clear C6
  go_wp2_with fail
  refine (reach_any _ _ L0 _ (HS0.out.chg0 HC6.out) (by decide) L0_right).mono ?_
  rintro e w7 ⟨y, rfl, hR, C7⟩
  obtain ⟨pr, cr, rfl⟩ := hR.form
  rw [L0_reach]
  have HC7 := Lib.hid (HC6.out.step C7)
  clear C7 hR
  go_wp2_with fail
  go_ret
  exact ⟨rfl, HA1.out.step HC7.out⟩
end Go.Proofs.YtapmojfebljjnaaGreat
