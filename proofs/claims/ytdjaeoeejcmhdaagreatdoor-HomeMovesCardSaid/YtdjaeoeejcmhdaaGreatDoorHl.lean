/- Pages that talk: a right is asked for. No condition. -/
import Derived.Test.YtdjaeoeejcmhdaaGreatDoorHk
import Derived.Test.YtdjaeoeejcmhdaaGreatDoorGd
import Derived.Test.YtdjaeoeejcmhdaaGreatDoorGa
set_option linter.unusedVariables false
set_option linter.unusedSimpArgs false
namespace Go.Proofs.YtdjaeoeejcmhdaaGreatDoor
open Go.RowKit Go.RR
theorem opwp_ins24 {P : Program} {o : Oper} {a : Act} {w w' : World} {K : Act → World → Prop} {Q : Exit → Act → World → Prop} (s x y : Operand) (t : TypeId) (b : Nat) (kx v : Value)
    (ho : o.op = .insert t s x y) (hs : a.eval s = .map (some b)) (hx : a.eval x = kx) (hy : a.eval y = v) (hr : (Instr.mapUpdate t (.map (some b)) kx v).run P w = .ok () w') (h : K (a.put o.dst undef) w') : o.wp P a w K Q := by
  unfold Oper.wp execOp
  simp [ho, hs, hx, hy, hr, Oper.upon]
  exact h
theorem opwp_look24 {P : Program} {o : Oper} {a : Act} {w : World} {K : Act → World → Prop} {Q : Exit → Act → World → Prop} (s x : Operand) (t : TypeId) (b : Nat) (kx v : Value)
    (ho : o.op = .lookup t s x false) (hs : a.eval s = .map (some b)) (hx : a.eval x = kx) (hr : (Instr.lookup t (.map (some b)) kx false).run P w = .ok v w) (h : K (a.put o.dst v) w) : o.wp P a w K Q := by
  unfold Oper.wp execOp
  simp [ho, hs, hx, hr, Oper.upon]
  exact h
theorem KINDi : (Tryz.prog.info? 49).map (fun i => (i.zero, i.size, i.bytes)) = some (some (.int .i64 0), 1, 8) := by kernel_rfl
/-- One pair after another, in some order: what is found. -/
theorem kinds24 (w : World) (x y : Int) (hxy : x ≠ y) : ∃ wa wb, (Instr.mapUpdate 131 (.map (some w.heap.size)) (.int .i64 x) (.int .i64 x)).run Tryz.prog (w.alloc (.map #[] 0)) = .ok () wa ∧ (Instr.mapUpdate 131 (.map (some w.heap.size)) (.int .i64 y) (.int .i64 y)).run Tryz.prog wa = .ok () wb ∧ Chg NoB w wa ∧ Chg NoB w wb ∧ w.heap.size < wb.heap.size ∧
    (Instr.lookup 131 (.map (some w.heap.size)) (.int .i64 x) false).run Tryz.prog wb = .ok (.int .i64 x) wb ∧ (Instr.lookup 131 (.map (some w.heap.size)) (.int .i64 y) false).run Tryz.prog wb = .ok (.int .i64 y) wb := by
  have h0 : MapAt (w.alloc (.map #[] 0)) w.heap.size .i64 [] := MapAt.new w .i64
  have C0 : Chg NoB w (w.alloc (.map #[] 0)) := (Chg.refl NoB w).alloc _
  obtain ⟨wa, ra, ha, ca⟩ := run_mapput (P := Tryz.prog) Tryz.underlying131 Tryz.underlying56 h0 x (.int .i64 x)
  obtain ⟨wb, rb, hb, cb⟩ := run_mapput (P := Tryz.prog) Tryz.underlying131 Tryz.underlying56 ha y (.int .i64 y)
  obtain ⟨i0, hi0, hz0, hz1, hz2⟩ := info_parts KINDi
  have lx := run_look1 (P := Tryz.prog) Tryz.underlying131 Tryz.underlying56 hi0 hz0 hb x
  have ly := run_look1 (P := Tryz.prog) Tryz.underlying131 Tryz.underlying56 hi0 hz0 hb y
  have e : mput (mput [] x (.int .i64 x)) y (.int .i64 y) = [(x, .int .i64 x), (y, .int .i64 y)] := by simp [mput, hxy]
  rw [e] at lx ly
  have e1 : mlook [(x, Value.int .i64 x), (y, .int .i64 y)] x = some (.int .i64 x) := by simp [mlook]
  have e2 : mlook [(x, Value.int .i64 x), (y, .int .i64 y)] y = some (.int .i64 y) := by
    have : (x == y) = false := by simpa using hxy
    simp [mlook, this]
  rw [e1] at lx
  rw [e2] at ly
  exact ⟨wa, wb, ra, rb, C0.trans ca fun q hq e => by have e : q = w.heap.size := e; omega, (C0.trans ca fun q hq e => by have e : q = w.heap.size := e; omega).trans cb fun q hq e => by have e : q = w.heap.size := e; omega, hb.lt, lx, ly⟩
set_option maxHeartbeats 4000000 in
set_option maxRecDepth 100000 in
theorem want_ask1 {w : World} {S : Nat → Prop} {pb : Nat} {me number : Int} {st : PgS} (h : PgT w S pb me number st false []) (hb : ∀ k, S k → k < w.heap.size) (hbz : st.busy = false) (ho : st.owner = false) (hlt : st.right < 1) :
    Calls Tryz.prog 21 #[.pointer (some ⟨pb, 0, none⟩), .int .i64 1] w (RetV (TellQ w S pb me number { st with want := 1 } false [⟨st.prob, 1, me, 0, 0, false⟩])) := by
  obtain ⟨b1, b2⟩ := busy_parts hbz
  have c0 : Chg NoB w (w.alloc (.cells #[.bool false, .int .i64 0, .slice none 0 0] 73)) := (Chg.refl NoB w).alloc _
  have hR2 := Blk.new w #[.bool false, .int .i64 0, .slice none 0 0] 73
  have h0 := h.chg0 c0
  have HBz := Lib.hid (busy_w h0 b1 b2)
  have HB := Lib.hid hb
  have HS := Lib.hid h.s
  have HPL := Lib.hid (hb pb h.s)
  obtain ⟨right, owner, prob, set, want, wait, held, forget⟩ := st
  obtain rfl : owner = false := ho
  have hlt : right < 1 := hlt
  have t1 : decide (1 ≤ right) = false := decide_eq_false (by omega)
  have t1' : decide (right < 1) = true := decide_eq_true hlt
  have c1 := (Chg.refl (fun k => k = pb) (w.alloc (.cells #[.bool false, .int .i64 0, .slice none 0 0] 73))).setCell (a := ⟨pb, 6, none⟩) (.inl rfl) (.int .i64 1)
  have h1 := h0.upd (st' := ⟨right, false, prob, set, 1, wait, held, forget⟩) (lay' := false) (fun rb v hB => hB.set 6 (.int .i64 1)) c1
  have HR := Lib.hid (c1.blk hR2 (by have := HPL.out; omega))
  have HZ := Lib.hid (Nat.le_trans c0.size c1.size)
  have HCW := Lib.hid ((c0.mono (S' := S) fun _ _ e => e.elim).trans (c1.mono (S' := S) fun k _ e => by have e : k = pb := e; rw [e]; exact HS.out) fun _ _ e => e)
  obtain ⟨rb, v, SL0, -, -, hB, -, -⟩ := h0.ex
  have hB : Blk (w.alloc (.cells #[.bool false, .int .i64 0, .slice none 0 0] 73)) pb #[.int .i64 me, .int .i64 number, .int .i64 right, .bool false, .int .i64 prob, .int .u16 set, .int .i64 want, .int .u16 wait, .bool held, .int .i64 forget, .int .i64 0, .pointer (some ⟨rb, 0, none⟩), v, .bool false] 128 := hB
  have f := hB.cell
  have fz := hB.frozen
  have fl := hB.lt
  have HH1 := Lib.hid h1
  clear h h0 c0 hb hB b1 b2 hbz hR2 c1 h1 hlt
  go_enter Tryz.func21, Tryz.ntmps21
  go_wp2_with fail
  with_reducible refine HBz.out.mono ?_
  rintro e w1 ⟨rfl, hw1⟩
  subst hw1
  go_upto_region 6 with fail
  clear f fz fl HBz
  generalize (w.alloc (.cells #[.bool false, .int .i64 0, .slice none 0 0] 73)).setCell ⟨pb, 6, none⟩ (.int .i64 1) = w1 at *
  have HTell := Lib.hid fun wX (c : Chg NoB w1 wX) => tell_w (HH1.out.chg0 c) (fun k hk => Nat.lt_of_lt_of_le (HB.out k hk) (Nat.le_trans HZ.out c.size)) (show ([] : List Lt).length ≤ 1000 by decide) prob 1
  have HS4 : Hid (∀ wX, Chg NoB w1 wX → wX.cell? ⟨pb, 4, none⟩ = some (.int .i64 prob) ∧ pb < wX.heap.size) := Lib.hid fun wX c => by
    obtain ⟨rb, v, SL0, -, -, hB, -, -⟩ := (HH1.out.chg0 c).ex
    exact ⟨hB.cell' (i := 4) rfl, hB.lt⟩
  have cd := (Chg.refl NoB w1).drew
  obtain ⟨wa, wab, ra, rab, ca, cab, sab, l1, l2⟩ := kinds24 w1.drew 1 2 (by decide)
  obtain ⟨wb, wba, rb, rba, cb, cba, sba, m2, m1⟩ := kinds24 w1.drew 2 1 (by decide)
  have HA := Lib.hid (And.intro ra (And.intro rab (And.intro (cd.trans ca fun _ _ e => e) (And.intro (cd.trans cab fun _ _ e => e) l1))))
  have HBB := Lib.hid (And.intro rb (And.intro rba (And.intro (cd.trans cb fun _ _ e => e) (And.intro (cd.trans cba fun _ _ e => e) m1))))
  have HCd := Lib.hid cd
  clear ra rab ca cab sab l1 l2 rb rba cb cba sba m1 m2 cd
  refine wp_region_all 12 5 [0, 1, 2, 3, 4, 5, 10] (fun w' => w'.cell? ⟨pb, 4, none⟩ = some (.int .i64 prob) ∧ pb < w'.heap.size) (by kernel_rfl) (by kernel_rfl) (fun _ _ _ _ _ h => h) (HS4.out _ HCd.out) ?_
  simp only [pickOps_nil, pickOps_cons, Option.getD_some, List.getElem?_toArray, List.getElem?_cons_zero, List.getElem?_cons_succ, List.cons_append, List.nil_append, List.drop_succ_cons, List.drop_zero]
  repeat
    refine wpTake_cons' rfl ?_
    apply Exists.intro
    refine ⟨fun wS hS => ?_, ?_⟩
    · try dsimp only at hS
      obtain ⟨hc4, hcl⟩ := hS
      go_simp
      try rfl
    simp only [Act.put, List.setIfInBounds_toArray, List.set_cons_zero, List.set_cons_succ]
  refine wpTake_nil ?_
  refine wpAll_cons [6] (by kernel_rfl) ?_
  have hmm := @run_makeMap Tryz.prog
  intro i hi
  simp only [List.mem_cons, List.not_mem_nil, or_false] at hi
  subst hi
  refine ⟨_, rfl, rfl, fun K hK => ?_⟩
  go_simp
  refine hK _ _ (HS4.out _ (HCd.out.alloc _)) ?_
  clear hK K
  clear hmm
  refine wpAll_cons [7, 8] (by kernel_rfl) ?_
  intro i hi
  simp only [List.mem_cons, List.not_mem_nil, or_false] at hi
  rcases hi with rfl | rfl
  ·
    refine ⟨_, rfl, rfl, fun K hK => ?_⟩
    refine opwp_ins24 _ _ _ 131 w1.drew.heap.size _ _ (by rfl) (by rfl) (by rfl) (by rfl) HA.out.1 ?_
    simp only [Act.put, List.setIfInBounds_toArray, List.set_cons_zero, List.set_cons_succ]
    refine hK _ _ (HS4.out _ HA.out.2.2.1) ?_
    clear hK K
    refine wpAll_cons [8] (by kernel_rfl) ?_
    intro i hi
    simp only [List.mem_cons, List.not_mem_nil, or_false] at hi
    subst hi
    refine ⟨_, rfl, rfl, fun K hK => ?_⟩
    refine opwp_ins24 _ _ _ 131 w1.drew.heap.size _ _ (by rfl) (by rfl) (by rfl) (by rfl) HA.out.2.1 ?_
    simp only [Act.put, List.setIfInBounds_toArray, List.set_cons_zero, List.set_cons_succ]
    refine hK _ _ (HS4.out _ HA.out.2.2.2.1) ?_
    clear hK K
    refine wpAll_cons [9] (by kernel_rfl) ?_
    intro i hi
    simp only [List.mem_cons, List.not_mem_nil, or_false] at hi
    subst hi
    refine ⟨_, rfl, rfl, fun K hK => ?_⟩
    go_simp
    refine hK _ _ (HS4.out _ HA.out.2.2.2.1) ?_
    clear hK K
    refine wpAll_cons [11] (by kernel_rfl) ?_
    intro i hi
    simp only [List.mem_cons, List.not_mem_nil, or_false] at hi
    subst hi
    refine ⟨_, rfl, rfl, fun K hK => ?_⟩
    refine opwp_look24 _ _ 131 w1.drew.heap.size _ _ (by rfl) (by rfl) (by rfl) HA.out.2.2.2.2 ?_
    simp only [Act.put, List.setIfInBounds_toArray, List.set_cons_zero, List.set_cons_succ]
    refine hK _ _ (HS4.out _ HA.out.2.2.2.1) ?_
    clear hK K
    refine wpAll_nil ?_
    have HTl := Lib.hid (HTell.out _ HA.out.2.2.2.1)
    have hRX := Chg.blk0 HA.out.2.2.2.1 HR.out
    have HRX := Lib.hid hRX
    have HZX := Lib.hid (Nat.le_trans HZ.out (Chg.size HA.out.2.2.2.1))
    have HCWX := Lib.hid (HCW.out.trans (Chg.mono (S' := S) HA.out.2.2.2.1 fun _ _ e => e.elim) fun _ _ e => e)
    clear hRX
    generalize wab = wX at *
    go_wp2_with fail
    with_reducible refine HTl.out.mono ?_
    rintro e w2 ⟨rfl, hX, hCX⟩
    have hP := hX.bd
    have HT := Lib.hid (turn_w hP (fun k hk => hk.2))
    have HCX := Lib.hid hCX
    have HR2 := Lib.hid (hCX.blk HRX.out fun e => by have h3 := HB.out _ e; omega)
    clear hX hCX hP
    go_wp2_with fail
    with_reducible refine HT.out.mono ?_
    rintro e w3 ⟨r, rfl, p, c, SL, S2, rfl, hSL, hS2, hO, hPg, c3⟩
    simp only [List.nil_append] at hO hPg ⊢
    have hR3 := c3.blk HR2.out (by have := HPL.out; omega)
    have HSA := store_all hR3 [.bool false, .int .i64 right, .slice p 1 c] rfl
    have hbd : ∀ k, S k ∨ wX.heap.size ≤ k → k ≠ w.heap.size := fun k e => by
      have h5 := HRX.out.lt
      rcases e with e | e
      · have h3 := HB.out _ e; omega
      · omega
    have HF : Hid (Own (w3.setCells w.heap.size 0 [.bool false, .int .i64 right, .slice p 1 c]) SL 121 8 (.slice p 1 c) 1 (ltsC number [⟨prob, 1, me, 0, 0, false⟩]) ∧ PgN (w3.setCells w.heap.size 0 [.bool false, .int .i64 right, .slice p 1 c]) S2 pb me number ⟨right, false, prob, set, 1, wait, held, forget⟩ ∧ Chg S w (w3.setCells w.heap.size 0 [.bool false, .int .i64 right, .slice p 1 c])) := Lib.hid ⟨hO.chg HSA.2 fun k hk e => hbd k (hSL k hk).1.1 e, hPg.chg HSA.2 fun k hk e => hbd k (hS2 k hk).1 e, chg_new24 ((HCWX.out.trans HCX.out fun _ _ e => e).trans (c3.mono (S' := S) fun k _ e => by have e : k = pb := e; rw [e]; exact HS.out) fun _ _ e => e) HSA.2 (Nat.le_refl _)⟩
    have HG := Lib.hid (And.intro (show ∀ k, SL k → (S k ∨ w.heap.size ≤ k) ∧ ¬ S2 k from fun k hk => ⟨(hSL k hk).1.1.imp id fun e => Nat.le_trans HZX.out e, (hSL k hk).2⟩) (show ∀ k, S2 k → S k ∨ w.heap.size ≤ k from fun k hk => (hS2 k hk).1.imp id fun e => Nat.le_trans HZX.out e))
    have z := hR3.cell
    have zz := hR3.frozen
    have zl := hR3.lt
    obtain ⟨w5, hw5⟩ : ∃ x, w3.setCells w.heap.size 0 [.bool false, .int .i64 right, .slice p 1 c] = x := ⟨_, rfl⟩
    rw [hw5] at HF HSA
    replace hw5 : ((w3.setCell ⟨w.heap.size, 0, none⟩ (.bool false)).setCell ⟨w.heap.size, 1, none⟩ (.int .i64 right)).setCell ⟨w.heap.size, 2, none⟩ (.slice p 1 c) = w5 := hw5
    have q := HSA.1.cell
    have ql := HSA.1.lt
    clear hR3 HSA hbd hSL hS2 hO hPg c3
    go_wp2_with fail
    exact bodyPost_ret (v := .agg #[.bool false, .int .i64 right, .slice p 1 c]) (by simp [results, Tryz.results21, go_sem, q]) rfl ⟨_, rfl, p, c, SL, S2, rfl, HG.out.1, HG.out.2, HF.out.1, HF.out.2.1, HF.out.2.2⟩
  ·
    refine ⟨_, rfl, rfl, fun K hK => ?_⟩
    refine opwp_ins24 _ _ _ 131 w1.drew.heap.size _ _ (by rfl) (by rfl) (by rfl) (by rfl) HBB.out.1 ?_
    simp only [Act.put, List.setIfInBounds_toArray, List.set_cons_zero, List.set_cons_succ]
    refine hK _ _ (HS4.out _ HBB.out.2.2.1) ?_
    clear hK K
    refine wpAll_cons [7] (by kernel_rfl) ?_
    intro i hi
    simp only [List.mem_cons, List.not_mem_nil, or_false] at hi
    subst hi
    refine ⟨_, rfl, rfl, fun K hK => ?_⟩
    refine opwp_ins24 _ _ _ 131 w1.drew.heap.size _ _ (by rfl) (by rfl) (by rfl) (by rfl) HBB.out.2.1 ?_
    simp only [Act.put, List.setIfInBounds_toArray, List.set_cons_zero, List.set_cons_succ]
    refine hK _ _ (HS4.out _ HBB.out.2.2.2.1) ?_
    clear hK K
    refine wpAll_cons [9] (by kernel_rfl) ?_
    intro i hi
    simp only [List.mem_cons, List.not_mem_nil, or_false] at hi
    subst hi
    refine ⟨_, rfl, rfl, fun K hK => ?_⟩
    go_simp
    refine hK _ _ (HS4.out _ HBB.out.2.2.2.1) ?_
    clear hK K
    refine wpAll_cons [11] (by kernel_rfl) ?_
    intro i hi
    simp only [List.mem_cons, List.not_mem_nil, or_false] at hi
    subst hi
    refine ⟨_, rfl, rfl, fun K hK => ?_⟩
    refine opwp_look24 _ _ 131 w1.drew.heap.size _ _ (by rfl) (by rfl) (by rfl) HBB.out.2.2.2.2 ?_
    simp only [Act.put, List.setIfInBounds_toArray, List.set_cons_zero, List.set_cons_succ]
    refine hK _ _ (HS4.out _ HBB.out.2.2.2.1) ?_
    clear hK K
    refine wpAll_nil ?_
    have HTl := Lib.hid (HTell.out _ HBB.out.2.2.2.1)
    have hRX := Chg.blk0 HBB.out.2.2.2.1 HR.out
    have HRX := Lib.hid hRX
    have HZX := Lib.hid (Nat.le_trans HZ.out (Chg.size HBB.out.2.2.2.1))
    have HCWX := Lib.hid (HCW.out.trans (Chg.mono (S' := S) HBB.out.2.2.2.1 fun _ _ e => e.elim) fun _ _ e => e)
    clear hRX
    generalize wba = wX at *
    go_wp2_with fail
    with_reducible refine HTl.out.mono ?_
    rintro e w2 ⟨rfl, hX, hCX⟩
    have hP := hX.bd
    have HT := Lib.hid (turn_w hP (fun k hk => hk.2))
    have HCX := Lib.hid hCX
    have HR2 := Lib.hid (hCX.blk HRX.out fun e => by have h3 := HB.out _ e; omega)
    clear hX hCX hP
    go_wp2_with fail
    with_reducible refine HT.out.mono ?_
    rintro e w3 ⟨r, rfl, p, c, SL, S2, rfl, hSL, hS2, hO, hPg, c3⟩
    simp only [List.nil_append] at hO hPg ⊢
    have hR3 := c3.blk HR2.out (by have := HPL.out; omega)
    have HSA := store_all hR3 [.bool false, .int .i64 right, .slice p 1 c] rfl
    have hbd : ∀ k, S k ∨ wX.heap.size ≤ k → k ≠ w.heap.size := fun k e => by
      have h5 := HRX.out.lt
      rcases e with e | e
      · have h3 := HB.out _ e; omega
      · omega
    have HF : Hid (Own (w3.setCells w.heap.size 0 [.bool false, .int .i64 right, .slice p 1 c]) SL 121 8 (.slice p 1 c) 1 (ltsC number [⟨prob, 1, me, 0, 0, false⟩]) ∧ PgN (w3.setCells w.heap.size 0 [.bool false, .int .i64 right, .slice p 1 c]) S2 pb me number ⟨right, false, prob, set, 1, wait, held, forget⟩ ∧ Chg S w (w3.setCells w.heap.size 0 [.bool false, .int .i64 right, .slice p 1 c])) := Lib.hid ⟨hO.chg HSA.2 fun k hk e => hbd k (hSL k hk).1.1 e, hPg.chg HSA.2 fun k hk e => hbd k (hS2 k hk).1 e, chg_new24 ((HCWX.out.trans HCX.out fun _ _ e => e).trans (c3.mono (S' := S) fun k _ e => by have e : k = pb := e; rw [e]; exact HS.out) fun _ _ e => e) HSA.2 (Nat.le_refl _)⟩
    have HG := Lib.hid (And.intro (show ∀ k, SL k → (S k ∨ w.heap.size ≤ k) ∧ ¬ S2 k from fun k hk => ⟨(hSL k hk).1.1.imp id fun e => Nat.le_trans HZX.out e, (hSL k hk).2⟩) (show ∀ k, S2 k → S k ∨ w.heap.size ≤ k from fun k hk => (hS2 k hk).1.imp id fun e => Nat.le_trans HZX.out e))
    have z := hR3.cell
    have zz := hR3.frozen
    have zl := hR3.lt
    obtain ⟨w5, hw5⟩ : ∃ x, w3.setCells w.heap.size 0 [.bool false, .int .i64 right, .slice p 1 c] = x := ⟨_, rfl⟩
    rw [hw5] at HF HSA
    replace hw5 : ((w3.setCell ⟨w.heap.size, 0, none⟩ (.bool false)).setCell ⟨w.heap.size, 1, none⟩ (.int .i64 right)).setCell ⟨w.heap.size, 2, none⟩ (.slice p 1 c) = w5 := hw5
    have q := HSA.1.cell
    have ql := HSA.1.lt
    clear hR3 HSA hbd hSL hS2 hO hPg c3
    go_wp2_with fail
    exact bodyPost_ret (v := .agg #[.bool false, .int .i64 right, .slice p 1 c]) (by simp [results, Tryz.results21, go_sem, q]) rfl ⟨_, rfl, p, c, SL, S2, rfl, HG.out.1, HG.out.2, HF.out.1, HF.out.2.1, HF.out.2.2⟩
set_option maxHeartbeats 4000000 in
set_option maxRecDepth 100000 in
theorem want_ask2 {w : World} {S : Nat → Prop} {pb : Nat} {me number : Int} {st : PgS} (h : PgT w S pb me number st false []) (hb : ∀ k, S k → k < w.heap.size) (hbz : st.busy = false) (ho : st.owner = false) (hlt : st.right < 2) :
    Calls Tryz.prog 21 #[.pointer (some ⟨pb, 0, none⟩), .int .i64 2] w (RetV (TellQ w S pb me number { st with want := 2 } false [⟨st.prob, 2, me, 0, 0, false⟩])) := by
  obtain ⟨b1, b2⟩ := busy_parts hbz
  have c0 : Chg NoB w (w.alloc (.cells #[.bool false, .int .i64 0, .slice none 0 0] 73)) := (Chg.refl NoB w).alloc _
  have hR2 := Blk.new w #[.bool false, .int .i64 0, .slice none 0 0] 73
  have h0 := h.chg0 c0
  have HBz := Lib.hid (busy_w h0 b1 b2)
  have HB := Lib.hid hb
  have HS := Lib.hid h.s
  have HPL := Lib.hid (hb pb h.s)
  obtain ⟨right, owner, prob, set, want, wait, held, forget⟩ := st
  obtain rfl : owner = false := ho
  have hlt : right < 2 := hlt
  have t1 : decide (2 ≤ right) = false := decide_eq_false (by omega)
  have t1' : decide (right < 2) = true := decide_eq_true hlt
  have c1 := (Chg.refl (fun k => k = pb) (w.alloc (.cells #[.bool false, .int .i64 0, .slice none 0 0] 73))).setCell (a := ⟨pb, 6, none⟩) (.inl rfl) (.int .i64 2)
  have h1 := h0.upd (st' := ⟨right, false, prob, set, 2, wait, held, forget⟩) (lay' := false) (fun rb v hB => hB.set 6 (.int .i64 2)) c1
  have HR := Lib.hid (c1.blk hR2 (by have := HPL.out; omega))
  have HZ := Lib.hid (Nat.le_trans c0.size c1.size)
  have HCW := Lib.hid ((c0.mono (S' := S) fun _ _ e => e.elim).trans (c1.mono (S' := S) fun k _ e => by have e : k = pb := e; rw [e]; exact HS.out) fun _ _ e => e)
  obtain ⟨rb, v, SL0, -, -, hB, -, -⟩ := h0.ex
  have hB : Blk (w.alloc (.cells #[.bool false, .int .i64 0, .slice none 0 0] 73)) pb #[.int .i64 me, .int .i64 number, .int .i64 right, .bool false, .int .i64 prob, .int .u16 set, .int .i64 want, .int .u16 wait, .bool held, .int .i64 forget, .int .i64 0, .pointer (some ⟨rb, 0, none⟩), v, .bool false] 128 := hB
  have f := hB.cell
  have fz := hB.frozen
  have fl := hB.lt
  have HH1 := Lib.hid h1
  clear h h0 c0 hb hB b1 b2 hbz hR2 c1 h1 hlt
  go_enter Tryz.func21, Tryz.ntmps21
  go_wp2_with fail
  with_reducible refine HBz.out.mono ?_
  rintro e w1 ⟨rfl, hw1⟩
  subst hw1
  go_upto_region 6 with fail
  clear f fz fl HBz
  generalize (w.alloc (.cells #[.bool false, .int .i64 0, .slice none 0 0] 73)).setCell ⟨pb, 6, none⟩ (.int .i64 2) = w1 at *
  have HTell := Lib.hid fun wX (c : Chg NoB w1 wX) => tell_w (HH1.out.chg0 c) (fun k hk => Nat.lt_of_lt_of_le (HB.out k hk) (Nat.le_trans HZ.out c.size)) (show ([] : List Lt).length ≤ 1000 by decide) prob 2
  have HS4 : Hid (∀ wX, Chg NoB w1 wX → wX.cell? ⟨pb, 4, none⟩ = some (.int .i64 prob) ∧ pb < wX.heap.size) := Lib.hid fun wX c => by
    obtain ⟨rb, v, SL0, -, -, hB, -, -⟩ := (HH1.out.chg0 c).ex
    exact ⟨hB.cell' (i := 4) rfl, hB.lt⟩
  have cd := (Chg.refl NoB w1).drew
  obtain ⟨wa, wab, ra, rab, ca, cab, sab, l1, l2⟩ := kinds24 w1.drew 1 2 (by decide)
  obtain ⟨wb, wba, rb, rba, cb, cba, sba, m2, m1⟩ := kinds24 w1.drew 2 1 (by decide)
  have HA := Lib.hid (And.intro ra (And.intro rab (And.intro (cd.trans ca fun _ _ e => e) (And.intro (cd.trans cab fun _ _ e => e) l2))))
  have HBB := Lib.hid (And.intro rb (And.intro rba (And.intro (cd.trans cb fun _ _ e => e) (And.intro (cd.trans cba fun _ _ e => e) m2))))
  have HCd := Lib.hid cd
  clear ra rab ca cab sab l1 l2 rb rba cb cba sba m1 m2 cd
  refine wp_region_all 12 5 [0, 1, 2, 3, 4, 5, 10] (fun w' => w'.cell? ⟨pb, 4, none⟩ = some (.int .i64 prob) ∧ pb < w'.heap.size) (by kernel_rfl) (by kernel_rfl) (fun _ _ _ _ _ h => h) (HS4.out _ HCd.out) ?_
  simp only [pickOps_nil, pickOps_cons, Option.getD_some, List.getElem?_toArray, List.getElem?_cons_zero, List.getElem?_cons_succ, List.cons_append, List.nil_append, List.drop_succ_cons, List.drop_zero]
  repeat
    refine wpTake_cons' rfl ?_
    apply Exists.intro
    refine ⟨fun wS hS => ?_, ?_⟩
    · try dsimp only at hS
      obtain ⟨hc4, hcl⟩ := hS
      go_simp
      try rfl
    simp only [Act.put, List.setIfInBounds_toArray, List.set_cons_zero, List.set_cons_succ]
  refine wpTake_nil ?_
  refine wpAll_cons [6] (by kernel_rfl) ?_
  have hmm := @run_makeMap Tryz.prog
  intro i hi
  simp only [List.mem_cons, List.not_mem_nil, or_false] at hi
  subst hi
  refine ⟨_, rfl, rfl, fun K hK => ?_⟩
  go_simp
  refine hK _ _ (HS4.out _ (HCd.out.alloc _)) ?_
  clear hK K
  clear hmm
  refine wpAll_cons [7, 8] (by kernel_rfl) ?_
  intro i hi
  simp only [List.mem_cons, List.not_mem_nil, or_false] at hi
  rcases hi with rfl | rfl
  ·
    refine ⟨_, rfl, rfl, fun K hK => ?_⟩
    refine opwp_ins24 _ _ _ 131 w1.drew.heap.size _ _ (by rfl) (by rfl) (by rfl) (by rfl) HA.out.1 ?_
    simp only [Act.put, List.setIfInBounds_toArray, List.set_cons_zero, List.set_cons_succ]
    refine hK _ _ (HS4.out _ HA.out.2.2.1) ?_
    clear hK K
    refine wpAll_cons [8] (by kernel_rfl) ?_
    intro i hi
    simp only [List.mem_cons, List.not_mem_nil, or_false] at hi
    subst hi
    refine ⟨_, rfl, rfl, fun K hK => ?_⟩
    refine opwp_ins24 _ _ _ 131 w1.drew.heap.size _ _ (by rfl) (by rfl) (by rfl) (by rfl) HA.out.2.1 ?_
    simp only [Act.put, List.setIfInBounds_toArray, List.set_cons_zero, List.set_cons_succ]
    refine hK _ _ (HS4.out _ HA.out.2.2.2.1) ?_
    clear hK K
    refine wpAll_cons [9] (by kernel_rfl) ?_
    intro i hi
    simp only [List.mem_cons, List.not_mem_nil, or_false] at hi
    subst hi
    refine ⟨_, rfl, rfl, fun K hK => ?_⟩
    go_simp
    refine hK _ _ (HS4.out _ HA.out.2.2.2.1) ?_
    clear hK K
    refine wpAll_cons [11] (by kernel_rfl) ?_
    intro i hi
    simp only [List.mem_cons, List.not_mem_nil, or_false] at hi
    subst hi
    refine ⟨_, rfl, rfl, fun K hK => ?_⟩
    refine opwp_look24 _ _ 131 w1.drew.heap.size _ _ (by rfl) (by rfl) (by rfl) HA.out.2.2.2.2 ?_
    simp only [Act.put, List.setIfInBounds_toArray, List.set_cons_zero, List.set_cons_succ]
    refine hK _ _ (HS4.out _ HA.out.2.2.2.1) ?_
    clear hK K
    refine wpAll_nil ?_
    have HTl := Lib.hid (HTell.out _ HA.out.2.2.2.1)
    have hRX := Chg.blk0 HA.out.2.2.2.1 HR.out
    have HRX := Lib.hid hRX
    have HZX := Lib.hid (Nat.le_trans HZ.out (Chg.size HA.out.2.2.2.1))
    have HCWX := Lib.hid (HCW.out.trans (Chg.mono (S' := S) HA.out.2.2.2.1 fun _ _ e => e.elim) fun _ _ e => e)
    clear hRX
    generalize wab = wX at *
    go_wp2_with fail
    with_reducible refine HTl.out.mono ?_
    rintro e w2 ⟨rfl, hX, hCX⟩
    have hP := hX.bd
    have HT := Lib.hid (turn_w hP (fun k hk => hk.2))
    have HCX := Lib.hid hCX
    have HR2 := Lib.hid (hCX.blk HRX.out fun e => by have h3 := HB.out _ e; omega)
    clear hX hCX hP
    go_wp2_with fail
    with_reducible refine HT.out.mono ?_
    rintro e w3 ⟨r, rfl, p, c, SL, S2, rfl, hSL, hS2, hO, hPg, c3⟩
    simp only [List.nil_append] at hO hPg ⊢
    have hR3 := c3.blk HR2.out (by have := HPL.out; omega)
    have HSA := store_all hR3 [.bool false, .int .i64 right, .slice p 1 c] rfl
    have hbd : ∀ k, S k ∨ wX.heap.size ≤ k → k ≠ w.heap.size := fun k e => by
      have h5 := HRX.out.lt
      rcases e with e | e
      · have h3 := HB.out _ e; omega
      · omega
    have HF : Hid (Own (w3.setCells w.heap.size 0 [.bool false, .int .i64 right, .slice p 1 c]) SL 121 8 (.slice p 1 c) 1 (ltsC number [⟨prob, 2, me, 0, 0, false⟩]) ∧ PgN (w3.setCells w.heap.size 0 [.bool false, .int .i64 right, .slice p 1 c]) S2 pb me number ⟨right, false, prob, set, 2, wait, held, forget⟩ ∧ Chg S w (w3.setCells w.heap.size 0 [.bool false, .int .i64 right, .slice p 1 c])) := Lib.hid ⟨hO.chg HSA.2 fun k hk e => hbd k (hSL k hk).1.1 e, hPg.chg HSA.2 fun k hk e => hbd k (hS2 k hk).1 e, chg_new24 ((HCWX.out.trans HCX.out fun _ _ e => e).trans (c3.mono (S' := S) fun k _ e => by have e : k = pb := e; rw [e]; exact HS.out) fun _ _ e => e) HSA.2 (Nat.le_refl _)⟩
    have HG := Lib.hid (And.intro (show ∀ k, SL k → (S k ∨ w.heap.size ≤ k) ∧ ¬ S2 k from fun k hk => ⟨(hSL k hk).1.1.imp id fun e => Nat.le_trans HZX.out e, (hSL k hk).2⟩) (show ∀ k, S2 k → S k ∨ w.heap.size ≤ k from fun k hk => (hS2 k hk).1.imp id fun e => Nat.le_trans HZX.out e))
    have z := hR3.cell
    have zz := hR3.frozen
    have zl := hR3.lt
    obtain ⟨w5, hw5⟩ : ∃ x, w3.setCells w.heap.size 0 [.bool false, .int .i64 right, .slice p 1 c] = x := ⟨_, rfl⟩
    rw [hw5] at HF HSA
    replace hw5 : ((w3.setCell ⟨w.heap.size, 0, none⟩ (.bool false)).setCell ⟨w.heap.size, 1, none⟩ (.int .i64 right)).setCell ⟨w.heap.size, 2, none⟩ (.slice p 1 c) = w5 := hw5
    have q := HSA.1.cell
    have ql := HSA.1.lt
    clear hR3 HSA hbd hSL hS2 hO hPg c3
    go_wp2_with fail
    exact bodyPost_ret (v := .agg #[.bool false, .int .i64 right, .slice p 1 c]) (by simp [results, Tryz.results21, go_sem, q]) rfl ⟨_, rfl, p, c, SL, S2, rfl, HG.out.1, HG.out.2, HF.out.1, HF.out.2.1, HF.out.2.2⟩
  ·
    refine ⟨_, rfl, rfl, fun K hK => ?_⟩
    refine opwp_ins24 _ _ _ 131 w1.drew.heap.size _ _ (by rfl) (by rfl) (by rfl) (by rfl) HBB.out.1 ?_
    simp only [Act.put, List.setIfInBounds_toArray, List.set_cons_zero, List.set_cons_succ]
    refine hK _ _ (HS4.out _ HBB.out.2.2.1) ?_
    clear hK K
    refine wpAll_cons [7] (by kernel_rfl) ?_
    intro i hi
    simp only [List.mem_cons, List.not_mem_nil, or_false] at hi
    subst hi
    refine ⟨_, rfl, rfl, fun K hK => ?_⟩
    refine opwp_ins24 _ _ _ 131 w1.drew.heap.size _ _ (by rfl) (by rfl) (by rfl) (by rfl) HBB.out.2.1 ?_
    simp only [Act.put, List.setIfInBounds_toArray, List.set_cons_zero, List.set_cons_succ]
    refine hK _ _ (HS4.out _ HBB.out.2.2.2.1) ?_
    clear hK K
    refine wpAll_cons [9] (by kernel_rfl) ?_
    intro i hi
    simp only [List.mem_cons, List.not_mem_nil, or_false] at hi
    subst hi
    refine ⟨_, rfl, rfl, fun K hK => ?_⟩
    go_simp
    refine hK _ _ (HS4.out _ HBB.out.2.2.2.1) ?_
    clear hK K
    refine wpAll_cons [11] (by kernel_rfl) ?_
    intro i hi
    simp only [List.mem_cons, List.not_mem_nil, or_false] at hi
    subst hi
    refine ⟨_, rfl, rfl, fun K hK => ?_⟩
    refine opwp_look24 _ _ 131 w1.drew.heap.size _ _ (by rfl) (by rfl) (by rfl) HBB.out.2.2.2.2 ?_
    simp only [Act.put, List.setIfInBounds_toArray, List.set_cons_zero, List.set_cons_succ]
    refine hK _ _ (HS4.out _ HBB.out.2.2.2.1) ?_
    clear hK K
    refine wpAll_nil ?_
    have HTl := Lib.hid (HTell.out _ HBB.out.2.2.2.1)
    have hRX := Chg.blk0 HBB.out.2.2.2.1 HR.out
    have HRX := Lib.hid hRX
    have HZX := Lib.hid (Nat.le_trans HZ.out (Chg.size HBB.out.2.2.2.1))
    have HCWX := Lib.hid (HCW.out.trans (Chg.mono (S' := S) HBB.out.2.2.2.1 fun _ _ e => e.elim) fun _ _ e => e)
    clear hRX
    generalize wba = wX at *
    go_wp2_with fail
    with_reducible refine HTl.out.mono ?_
    rintro e w2 ⟨rfl, hX, hCX⟩
    have hP := hX.bd
    have HT := Lib.hid (turn_w hP (fun k hk => hk.2))
    have HCX := Lib.hid hCX
    have HR2 := Lib.hid (hCX.blk HRX.out fun e => by have h3 := HB.out _ e; omega)
    clear hX hCX hP
    go_wp2_with fail
    with_reducible refine HT.out.mono ?_
    rintro e w3 ⟨r, rfl, p, c, SL, S2, rfl, hSL, hS2, hO, hPg, c3⟩
    simp only [List.nil_append] at hO hPg ⊢
    have hR3 := c3.blk HR2.out (by have := HPL.out; omega)
    have HSA := store_all hR3 [.bool false, .int .i64 right, .slice p 1 c] rfl
    have hbd : ∀ k, S k ∨ wX.heap.size ≤ k → k ≠ w.heap.size := fun k e => by
      have h5 := HRX.out.lt
      rcases e with e | e
      · have h3 := HB.out _ e; omega
      · omega
    have HF : Hid (Own (w3.setCells w.heap.size 0 [.bool false, .int .i64 right, .slice p 1 c]) SL 121 8 (.slice p 1 c) 1 (ltsC number [⟨prob, 2, me, 0, 0, false⟩]) ∧ PgN (w3.setCells w.heap.size 0 [.bool false, .int .i64 right, .slice p 1 c]) S2 pb me number ⟨right, false, prob, set, 2, wait, held, forget⟩ ∧ Chg S w (w3.setCells w.heap.size 0 [.bool false, .int .i64 right, .slice p 1 c])) := Lib.hid ⟨hO.chg HSA.2 fun k hk e => hbd k (hSL k hk).1.1 e, hPg.chg HSA.2 fun k hk e => hbd k (hS2 k hk).1 e, chg_new24 ((HCWX.out.trans HCX.out fun _ _ e => e).trans (c3.mono (S' := S) fun k _ e => by have e : k = pb := e; rw [e]; exact HS.out) fun _ _ e => e) HSA.2 (Nat.le_refl _)⟩
    have HG := Lib.hid (And.intro (show ∀ k, SL k → (S k ∨ w.heap.size ≤ k) ∧ ¬ S2 k from fun k hk => ⟨(hSL k hk).1.1.imp id fun e => Nat.le_trans HZX.out e, (hSL k hk).2⟩) (show ∀ k, S2 k → S k ∨ w.heap.size ≤ k from fun k hk => (hS2 k hk).1.imp id fun e => Nat.le_trans HZX.out e))
    have z := hR3.cell
    have zz := hR3.frozen
    have zl := hR3.lt
    obtain ⟨w5, hw5⟩ : ∃ x, w3.setCells w.heap.size 0 [.bool false, .int .i64 right, .slice p 1 c] = x := ⟨_, rfl⟩
    rw [hw5] at HF HSA
    replace hw5 : ((w3.setCell ⟨w.heap.size, 0, none⟩ (.bool false)).setCell ⟨w.heap.size, 1, none⟩ (.int .i64 right)).setCell ⟨w.heap.size, 2, none⟩ (.slice p 1 c) = w5 := hw5
    have q := HSA.1.cell
    have ql := HSA.1.lt
    clear hR3 HSA hbd hSL hS2 hO hPg c3
    go_wp2_with fail
    exact bodyPost_ret (v := .agg #[.bool false, .int .i64 right, .slice p 1 c]) (by simp [results, Tryz.results21, go_sem, q]) rfl ⟨_, rfl, p, c, SL, S2, rfl, HG.out.1, HG.out.2, HF.out.1, HF.out.2.1, HF.out.2.2⟩
end Go.Proofs.YtdjaeoeejcmhdaaGreatDoor
