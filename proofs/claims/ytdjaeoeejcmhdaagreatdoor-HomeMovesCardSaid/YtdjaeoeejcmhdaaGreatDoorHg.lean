/- Pages that talk: dropped, copied, forgotten. No condition. Pages that talk: what was waited for is forgotten. No condition. Pages that talk: who asks is served. No condition. -/
import Derived.Test.YtdjaeoeejcmhdaaGreatDoorHf
set_option linter.unusedVariables false
set_option linter.unusedSimpArgs false
namespace Go.Proofs.YtdjaeoeejcmhdaaGreatDoor
open Go.RowKit Go.RR
/-- What an act of a page leaves, told from its beginning. -/
def ActQ (w : World) (S : Nat → Prop) (pb : Nat) (me number : Int) (st : PgS) (lay : Bool) (ls : List Lt) (w' : World) : Prop := PgT w' (Grow S w) pb me number st lay ls ∧ Chg S w w'
theorem ActQ.of {w w1 w' : World} {S : Nat → Prop} {pb : Nat} {me number : Int} {st : PgS} {lay : Bool} {ls : List Lt} (hp : S pb) (c1 : Chg (fun k => k = pb) w w1) (h : ActQ w1 S pb me number st lay ls w') : ActQ w S pb me number st lay ls w' := by
  have hz := c1.size
  exact ⟨h.1.mono fun k hk => hk.imp id fun e => Nat.le_trans hz e, (c1.mono (S' := S) fun k _ e => by have e : k = pb := e; rw [e]; exact hp).trans h.2 fun _ _ e => e⟩
theorem ActQ.one {w w' : World} {S : Nat → Prop} {pb : Nat} {me number : Int} {st : PgS} {lay : Bool} {ls : List Lt} (hp : S pb) (h : PgT w' S pb me number st lay ls) (c1 : Chg (fun k => k = pb) w w') : ActQ w S pb me number st lay ls w' :=
  ⟨h.mono fun k hk => .inl hk, c1.mono fun k _ e => by have e : k = pb := e; rw [e]; exact hp⟩
theorem ActQ.of0 {w w1 w' : World} {S : Nat → Prop} {pb : Nat} {me number : Int} {st : PgS} {lay : Bool} {ls : List Lt} (c1 : Chg NoB w w1) (h : ActQ w1 S pb me number st lay ls w') : ActQ w S pb me number st lay ls w' := by
  have hz := c1.size
  exact ⟨h.1.mono fun k hk => hk.imp id fun e => Nat.le_trans hz e, (c1.mono (S' := S) fun _ _ e => e.elim).trans h.2 fun _ _ e => e⟩
theorem ActQ.then0 {w w1 w' : World} {S : Nat → Prop} {pb : Nat} {me number : Int} {st : PgS} {lay : Bool} {ls : List Lt} (h : ActQ w S pb me number st lay ls w1) (c1 : Chg NoB w1 w') : ActQ w S pb me number st lay ls w' := ⟨h.1.chg0 c1, h.2.then0 c1⟩
set_option maxHeartbeats 2000000 in
set_option maxRecDepth 100000 in
theorem drop_w {w : World} {S : Nat → Prop} {pb : Nat} {me number : Int} {st : PgS} {lay : Bool} {ls : List Lt} (h : PgT w S pb me number st lay ls) (hb : ∀ k, S k → k < w.heap.size) (hl : ls.length ≤ 1000) (node : Int) :
    Calls Tryz.prog 65 #[.pointer (some ⟨pb, 0, none⟩), .int .i64 node] w (RetW (.tuple #[]) (ActQ w S pb me number (dropPF me st node).1 lay (ls ++ (dropPF me st node).2))) := by
  obtain ⟨right, owner, prob, set, want, wait, held, forget⟩ := st
  have hs := h.s
  by_cases hw : want = 0
  · subst hw
    have c1 := ((Chg.refl (fun k => k = pb) w).setCell (a := ⟨pb, 2, none⟩) (.inl rfl) (.int .i64 0)).setCell (a := ⟨pb, 4, none⟩) (.inl rfl) (.int .i64 node)
    have h1 := h.upd (st' := ⟨0, owner, node, set, 0, wait, held, forget⟩) (lay' := lay) (fun rb v hB => (hB.set 2 (.int .i64 0)).set 4 (.int .i64 node)) c1
    have HT := Lib.hid (tell_w h1 (fun k hk => by have := hb k hk; simpa using this) hl node 6)
    have HC := Lib.hid (And.intro hs c1)
    obtain ⟨rb, v, SL, -, -, hB, -, -⟩ := h.ex
    have hB : Blk w pb #[.int .i64 me, .int .i64 number, .int .i64 right, .bool owner, .int .i64 prob, .int .u16 set, .int .i64 0, .int .u16 wait, .bool held, .int .i64 forget, .int .i64 0, .pointer (some ⟨rb, 0, none⟩), v, .bool lay] 128 := hB
    have f := hB.cell
    have fz := hB.frozen
    have fl := hB.lt
    clear hB h c1 h1 hb hl hs
    go_enter Tryz.func65, Tryz.ntmps65
    go_wp2_with fail
    with_reducible refine HT.out.mono ?_
    rintro e w1 ⟨rfl, hX⟩
    have HX := Lib.hid (ActQ.of HC.out.1 HC.out.2 hX)
    clear hX
    go_wp2_with fail
    refine bodyPost_end (results_none rfl _ _ _) rfl ?_
    exact ⟨rfl, HX.out⟩
  · have t1 : (want == 0) = false := by simpa using hw
    have e1 : dropPF me ⟨right, owner, prob, set, want, wait, held, forget⟩ node = (⟨0, owner, prob, set, want, wait, held, forget⟩, [⟨node, 6, me, 0, 0, false⟩]) := by unfold dropPF; rw [if_neg hw]
    rw [e1]
    have c1 := (Chg.refl (fun k => k = pb) w).setCell (a := ⟨pb, 2, none⟩) (.inl rfl) (.int .i64 0)
    have h1 := h.upd (st' := ⟨0, owner, prob, set, want, wait, held, forget⟩) (lay' := lay) (fun rb v hB => hB.set 2 (.int .i64 0)) c1
    have HT := Lib.hid (tell_w h1 (fun k hk => by have := hb k hk; simpa using this) hl node 6)
    have HC := Lib.hid (And.intro hs c1)
    obtain ⟨rb, v, SL, -, -, hB, -, -⟩ := h.ex
    have hB : Blk w pb #[.int .i64 me, .int .i64 number, .int .i64 right, .bool owner, .int .i64 prob, .int .u16 set, .int .i64 want, .int .u16 wait, .bool held, .int .i64 forget, .int .i64 0, .pointer (some ⟨rb, 0, none⟩), v, .bool lay] 128 := hB
    have f := hB.cell
    have fz := hB.frozen
    have fl := hB.lt
    clear hB h c1 h1 hb hl hs hw e1
    go_enter Tryz.func65, Tryz.ntmps65
    go_wp2_with fail
    with_reducible refine HT.out.mono ?_
    rintro e w1 ⟨rfl, hX⟩
    have HX := Lib.hid (ActQ.of HC.out.1 HC.out.2 hX)
    clear hX
    go_wp2_with fail
    refine bodyPost_end (results_none rfl _ _ _) rfl ?_
    exact ⟨rfl, HX.out⟩
set_option maxHeartbeats 2000000 in
set_option maxRecDepth 100000 in
theorem copied_w {w : World} {S : Nat → Prop} {pb : Nat} {me number : Int} {st : PgS} {lay : Bool} {ls : List Lt} (h : PgT w S pb me number st lay ls) (hb : ∀ k, S k → k < w.heap.size) (hw : st.want = 1) (ho : st.owner = false) (kind pg node hops : Int) (sm : Nat) (dp : Option Addr) (dn dc : Nat) :
    Calls Tryz.prog 75 #[.pointer (some ⟨pb, 0, none⟩), .agg #[.int .i64 kind, .int .i64 pg, .int .i64 node, .int .i64 hops, .int .u16 sm, .slice dp dn dc]] w (RetW (.tuple #[]) (ActQ w S pb me number (holdF { st with prob := node } 1) true ls)) := by
  obtain ⟨right, owner, prob, set, want, wait, held, forget⟩ := st
  obtain rfl : want = 1 := hw
  obtain rfl : owner = false := ho
  have hs := h.s
  have hpl := hb pb hs
  have c0 : Chg NoB w (w.alloc (.cells #[.int .i64 kind, .int .i64 pg, .int .i64 node, .int .i64 hops, .int .u16 sm, .slice dp dn dc] 52)) := (Chg.refl NoB w).alloc _
  have hM := Blk.new w #[.int .i64 kind, .int .i64 pg, .int .i64 node, .int .i64 hops, .int .u16 sm, .slice dp dn dc] 52
  have h0 := h.chg0 c0
  have hmp : ¬ w.heap.size = pb := by omega
  clear hb h
  go_enter Tryz.func75, Tryz.ntmps75
  go_upto_region 1 with fail
  generalize w.alloc (.cells #[.int .i64 kind, .int .i64 pg, .int .i64 node, .int .i64 hops, .int .u16 sm, .slice dp dn dc] 52) = w0 at *
  obtain ⟨mb, hmb⟩ : ∃ mb, w.heap.size = mb := ⟨_, rfl⟩
  rw [hmb] at hM hmp
  simp only [hmb]
  have c1 := ((Chg.refl (fun k => k = pb) w0).setCell (a := ⟨pb, 13, none⟩) (.inl rfl) (.bool true)).setCell (a := ⟨pb, 4, none⟩) (.inl rfl) (.int .i64 node)
  have h1 := h0.upd (st' := ⟨right, false, node, set, 1, wait, held, forget⟩) (lay' := true) (fun rb v hB => (hB.set 13 (.bool true)).set 4 (.int .i64 node)) c1
  have HH := Lib.hid (hold_w h1 1)
  have HC := Lib.hid (And.intro hs (And.intro c0 c1))
  obtain ⟨rb, v, SL, -, -, hB, -, -⟩ := h0.ex
  have hB : Blk w0 pb #[.int .i64 me, .int .i64 number, .int .i64 right, .bool false, .int .i64 prob, .int .u16 set, .int .i64 1, .int .u16 wait, .bool held, .int .i64 forget, .int .i64 0, .pointer (some ⟨rb, 0, none⟩), v, .bool lay] 128 := hB
  have f := hB.cell
  have fz := hB.frozen
  have fl := hB.lt
  have m := hM.cell
  have ml := hM.lt
  clear hB hM h0 c1 h1 hs c0 hmb hpl
  go_wp2_with fail
  with_reducible refine HH.out.mono ?_
  rintro e w1 ⟨rfl, hX, hC⟩
  have HX := Lib.hid (ActQ.of0 HC.out.2.1 (ActQ.of HC.out.1 HC.out.2.2 (ActQ.one HC.out.1 hX hC)))
  clear hX hC
  go_wp2_with fail
  refine bodyPost_end (results_none rfl _ _ _) rfl ?_
  exact ⟨rfl, HX.out⟩
set_option maxHeartbeats 2000000 in
set_option maxRecDepth 100000 in
theorem forget_w {w : World} {S : Nat → Prop} {pb : Nat} {me number : Int} {st : PgS} {lay : Bool} {ls : List Lt} (h : PgT w S pb me number st lay ls) (hb : ∀ k, S k → k < w.heap.size) (hl : ls.length ≤ 1000) (ho : st.owner = false) (hw : st.want = 0) (hh : st.held = false) (kind pg node hops : Int) (sm : Nat) (dp : Option Addr) (dn dc : Nat) :
    Calls Tryz.prog 77 #[.pointer (some ⟨pb, 0, none⟩), .agg #[.int .i64 kind, .int .i64 pg, .int .i64 node, .int .i64 hops, .int .u16 sm, .slice dp dn dc]] w (RetW (.tuple #[]) (ActQ w S pb me number (dropPF me st node).1 lay (ls ++ (dropPF me st node).2))) := by
  have c0 : Chg NoB w (w.alloc (.cells #[.int .i64 kind, .int .i64 pg, .int .i64 node, .int .i64 hops, .int .u16 sm, .slice dp dn dc] 52)) := (Chg.refl NoB w).alloc _
  have hM := Blk.new w #[.int .i64 kind, .int .i64 pg, .int .i64 node, .int .i64 hops, .int .u16 sm, .slice dp dn dc] 52
  have h0 := h.chg0 c0
  have HD := Lib.hid (drop_w h0 (fun k hk => Nat.lt_of_lt_of_le (hb k hk) c0.size) hl node)
  obtain ⟨right, owner, prob, set, want, wait, held, forget⟩ := st
  obtain rfl : want = 0 := hw
  obtain rfl : owner = false := ho
  obtain rfl : held = false := hh
  have HC := Lib.hid c0
  clear hb h hl
  go_enter Tryz.func77, Tryz.ntmps77
  go_upto_region 2 with fail
  generalize w.alloc (.cells #[.int .i64 kind, .int .i64 pg, .int .i64 node, .int .i64 hops, .int .u16 sm, .slice dp dn dc] 52) = w0 at *
  obtain ⟨rb, v, SL, -, -, hB, -, -⟩ := h0.ex
  have hB : Blk w0 pb #[.int .i64 me, .int .i64 number, .int .i64 right, .bool false, .int .i64 prob, .int .u16 set, .int .i64 0, .int .u16 wait, .bool false, .int .i64 forget, .int .i64 0, .pointer (some ⟨rb, 0, none⟩), v, .bool lay] 128 := hB
  have f := hB.cell
  have fl := hB.lt
  have m := hM.cell
  have ml := hM.lt
  clear hB hM h0 c0
  go_wp2_with fail
  with_reducible refine HD.out.mono ?_
  rintro e w1 ⟨rfl, hX⟩
  have HX := Lib.hid (ActQ.of0 HC.out hX)
  clear hX
  go_wp2_with fail
  refine bodyPost_end (results_none rfl _ _ _) rfl ?_
  exact ⟨rfl, HX.out⟩
end Go.Proofs.YtdjaeoeejcmhdaaGreatDoor
set_option linter.unusedVariables false
set_option linter.unusedSimpArgs false
namespace Go.Proofs.YtdjaeoeejcmhdaaGreatDoor
open Go.RowKit Go.RR
set_option maxHeartbeats 4000000 in
set_option maxRecDepth 100000 in
theorem forgot_w {w : World} {S : Nat → Prop} {pb : Nat} {me number : Int} {st : PgS} {lay : Bool} {ls : List Lt} (h : PgT w S pb me number st lay ls) (hb : ∀ k, S k → k < w.heap.size) (hw : st.want = 2) (ho : st.owner = true) (node : Nat) (hn : node < 16) (hsb : st.set < 65536) (hwb : st.wait < 65536) (hh : nhasF st.wait node = true) (kind pg hops : Int) (sm : Nat) (dp : Option Addr) (dn dc : Nat) :
    Calls Tryz.prog 78 #[.pointer (some ⟨pb, 0, none⟩), .agg #[.int .i64 kind, .int .i64 pg, .int .i64 node, .int .i64 hops, .int .u16 sm, .slice dp dn dc]] w (RetW (.tuple #[]) (ActQ w S pb me number (if ndropF st.wait node = 0 then holdF { st with wait := 0, set := ndropF st.set node } 2 else { st with wait := ndropF st.wait node, set := ndropF st.set node }) lay ls)) := by
  have c0 : Chg NoB w (w.alloc (.cells #[.int .i64 kind, .int .i64 pg, .int .i64 node, .int .i64 hops, .int .u16 sm, .slice dp dn dc] 52)) := (Chg.refl NoB w).alloc _
  have hM := Blk.new w #[.int .i64 kind, .int .i64 pg, .int .i64 node, .int .i64 hops, .int .u16 sm, .slice dp dn dc] 52
  have h0 := h.chg0 c0
  have hs := h.s
  have hpl := hb pb hs
  obtain ⟨right, owner, prob, set, want, wait, held, forget⟩ := st
  obtain rfl : want = 2 := hw
  obtain rfl : owner = true := ho
  have HHas := Lib.hid (nHasH wait node hwb hn)
  rw [show nhasF wait node = true from hh] at HHas
  have HD1 := Lib.hid (nDropH wait node hwb hn)
  have HD2 := Lib.hid (nDropH set node hsb hn)
  obtain ⟨wt, hwt⟩ : ∃ x, ndropF wait node = x := ⟨_, rfl⟩
  obtain ⟨sx, hsx⟩ : ∃ x, ndropF set node = x := ⟨_, rfl⟩
  have hE : (if ndropF (⟨right, true, prob, set, 2, wait, held, forget⟩ : PgS).wait node = 0 then holdF { (⟨right, true, prob, set, 2, wait, held, forget⟩ : PgS) with wait := 0, set := ndropF (⟨right, true, prob, set, 2, wait, held, forget⟩ : PgS).set node } 2 else { (⟨right, true, prob, set, 2, wait, held, forget⟩ : PgS) with wait := ndropF (⟨right, true, prob, set, 2, wait, held, forget⟩ : PgS).wait node, set := ndropF (⟨right, true, prob, set, 2, wait, held, forget⟩ : PgS).set node }) = if wt = 0 then (⟨2, true, prob, sx, 0, 0, true, forget⟩ : PgS) else ⟨right, true, prob, sx, 2, wt, held, forget⟩ := by
    show (if ndropF wait node = 0 then (⟨2, true, prob, ndropF set node, 0, 0, true, forget⟩ : PgS) else ⟨right, true, prob, ndropF set node, 2, ndropF wait node, held, forget⟩) = _
    rw [hwt, hsx]
  rw [hE]
  rw [hwt] at HD1
  rw [hsx] at HD2
  have HC0 := Lib.hid (And.intro hs c0)
  clear hb h hsb hwb hh hwt hsx hE hn
  go_enter Tryz.func78, Tryz.ntmps78
  go_upto_region 1 with fail
  generalize w.alloc (.cells #[.int .i64 kind, .int .i64 pg, .int .i64 node, .int .i64 hops, .int .u16 sm, .slice dp dn dc] 52) = w0 at *
  obtain ⟨mb, hmb⟩ : ∃ mb, w.heap.size = mb := ⟨_, rfl⟩
  rw [hmb] at hM hpl
  simp only [hmb]
  obtain ⟨rb, v, SL, -, -, hB, -, -⟩ := h0.ex
  have hB : Blk w0 pb #[.int .i64 me, .int .i64 number, .int .i64 right, .bool true, .int .i64 prob, .int .u16 set, .int .i64 2, .int .u16 wait, .bool held, .int .i64 forget, .int .i64 0, .pointer (some ⟨rb, 0, none⟩), v, .bool lay] 128 := hB
  have g : ∀ w', Chg NoB w0 w' → ∀ i, w'.cell? ⟨pb, i, none⟩ = #[.int .i64 me, .int .i64 number, .int .i64 right, .bool true, .int .i64 prob, .int .u16 set, .int .i64 2, .int .u16 wait, .bool held, .int .i64 forget, .int .i64 0, .pointer (some ⟨rb, 0, none⟩), v, .bool lay][i]? := fun w' k i => (k.blk0 hB).cell i
  have gl : ∀ w', Chg NoB w0 w' → pb < w'.heap.size := fun w' k => (k.blk0 hB).lt
  have m : ∀ w', Chg NoB w0 w' → ∀ i, w'.cell? ⟨mb, i, none⟩ = #[.int .i64 kind, .int .i64 pg, .int .i64 node, .int .i64 hops, .int .u16 sm, .slice dp dn dc][i]? := fun w' k i => (k.blk0 hM).cell i
  have ml : ∀ w', Chg NoB w0 w' → mb < w'.heap.size := fun w' k => (k.blk0 hM).lt
  have cc := Chg.refl NoB w0
  have HH0 := Lib.hid h0
  have HB := Lib.hid hB
  have HM := Lib.hid (And.intro hM hpl)
  clear hB hM hpl h0 hs c0 hmb
  go_region_held3 (fun w' => Chg NoB w0 w') ((repeat (first | with_reducible assumption | with_reducible apply Chg.drew | with_reducible apply Chg.drewN | with_reducible apply Chg.alloc))) (first
    | (go_at_call 116; (with_reducible refine (HHas.out _).mono ?_); rintro e wa ⟨rfl, hwa⟩; subst hwa))
  go_upto_region 2 with fail
  have cd := cc.drew
  have HB1 := Lib.hid (cd.blk0 HB.out)
  have hM1 := cd.blk0 HM.out.1
  have HH1 := Lib.hid (HH0.out.chg0 cd)
  have HC1 := Lib.hid (And.intro HC0.out.1 (HC0.out.2.step cd))
  clear cc cd g gl m ml HB HH0
  generalize w0.drew = w1 at *
  have f := HB1.out.cell
  have fl := HB1.out.lt
  have fz := HB1.out.frozen
  have m := hM1.cell
  have ml := hM1.lt
  refine wp_region_plan 21 [1] [0, 2, 3, 4, 5, 6, 7, 8, 9, 10, 11, 12, 13, 14, 15, 16, 17, 18, 19, 20] (by kernel_rfl) (by kernel_rfl) (fun _ _ _ _ _ h => h) ?_
  simp only [pickOps_nil, pickOps_cons, Option.getD_some, List.getElem?_toArray, List.getElem?_cons_zero, List.getElem?_cons_succ, List.cons_append, List.nil_append, List.drop_succ_cons, List.drop_zero]
  repeat (go_big_quiet_step ((first | (go_at_call 110; exact quiet0 ((HD1.out _).mono fun e w' h => ⟨h.1, h.2.symm⟩)) | (go_at_call 110; exact quiet0 ((HD2.out _).mono fun e w' h => ⟨h.1, h.2.symm⟩)))))
  refine wpQuiet_nil ?_
  intro w2 hw2
  have C2 := Chg.of_ex hw2
  clear hw2
  clear f fl fz m ml
  have hB2 : Blk w2 pb #[.int .i64 me, .int .i64 number, .int .i64 right, .bool true, .int .i64 prob, .int .u16 set, .int .i64 2, .int .u16 wait, .bool held, .int .i64 forget, .int .i64 0, .pointer (some ⟨rb, 0, none⟩), v, .bool lay] 128 := C2.blk0 HB1.out
  have h2 := HH1.out.chg0 C2
  have c2 := ((Chg.refl (fun k => k = pb) w2).setCell (a := ⟨pb, 7, none⟩) (.inl rfl) (.int .u16 wt)).setCell (a := ⟨pb, 5, none⟩) (.inl rfl) (.int .u16 sx)
  have h3 := h2.upd (st' := ⟨right, true, prob, sx, 2, wt, held, forget⟩) (lay' := lay) (fun rb v hB => (hB.set 7 (.int .u16 wt)).set 5 (.int .u16 sx)) c2
  have HC3 := Lib.hid (And.intro HC1.out.1 (And.intro (HC1.out.2.step C2) c2))
  have H3 := Lib.hid h3
  have f := hB2.cell
  have fl := hB2.lt
  have fz := hB2.frozen
  go_upto_region 3 with fail
  have HH := Lib.hid (hold_w h3 2)
  clear hB2 h2 c2 h3 C2 hM1 HM HB1 HH1 HC1 f fl fz
  generalize (w2.setCell ⟨pb, 7, none⟩ (.int .u16 wt)).setCell ⟨pb, 5, none⟩ (.int .u16 sx) = w3 at *
  obtain ⟨rb3, v3, SL3, -, -, hB3, -, -⟩ := H3.out.ex
  have f7 := hB3.cell' (i := 7) (v := .int .u16 wt) rfl
  have fl := hB3.lt
  clear hB3
  by_cases hw0 : wt = 0
  · rw [if_pos hw0]
    have HW0 := Lib.hid hw0
    rw [hw0] at f7
    have f7 : w3.cell? ⟨pb, 7, none⟩ = some (.int .u16 0) := f7
    clear hw0
    go_wp2_with fail
    with_reducible refine HH.out.mono ?_
    rintro e w4 ⟨rfl, hX, hC⟩
    have HX := Lib.hid (ActQ.of0 HC3.out.2.1 (ActQ.of HC3.out.1 HC3.out.2.2 (ActQ.one HC3.out.1 hX hC)))
    clear hX hC
    go_wp2_with fail
    refine bodyPost_end (results_none rfl _ _ _) rfl ?_
    have := HX.out
    rw [HW0.out] at this
    exact ⟨rfl, this⟩
  · rw [if_neg hw0]
    have q1 : ((wt : Int) == 0) = false := by simpa using hw0
    have q2 : decide (wt = 0) = false := decide_eq_false hw0
    have q3 : (wt == 0) = false := by simpa using hw0
    have HN := Lib.hid hw0
    clear hw0
    go_wp2_with fail
    all_goals first | (exact absurd (by assumption) HN.out) | skip
    refine bodyPost_end (results_none rfl _ _ _) rfl ?_
    exact ⟨rfl, ActQ.of0 HC3.out.2.1 (ActQ.one HC3.out.1 H3.out HC3.out.2.2)⟩
end Go.Proofs.YtdjaeoeejcmhdaaGreatDoor
set_option linter.unusedVariables false
set_option linter.unusedSimpArgs false
namespace Go.Proofs.YtdjaeoeejcmhdaaGreatDoor
open Go.RowKit Go.RR
set_option maxHeartbeats 4000000 in
set_option maxRecDepth 100000 in
/-- Who doesn't own the page sends on. -/
theorem serve_on {w : World} {S : Nat → Prop} {pb : Nat} {me number : Int} {st : PgS} {lay : Bool} {ls : List Lt} (h : PgT w S pb me number st lay ls) (hb : ∀ k, S k → k < w.heap.size) (hl : ls.length ≤ 1000) (ho : st.owner = false) (kind pg node hops : Int) (h0 : 0 ≤ hops) (h1 : hops ≤ 255) (sm : Nat) (dp : Option Addr) (dn dc : Nat) :
    Calls Tryz.prog 68 #[.pointer (some ⟨pb, 0, none⟩), .agg #[.int .i64 kind, .int .i64 pg, .int .i64 node, .int .i64 hops, .int .u16 sm, .slice dp dn dc]] w (RetW (.tuple #[]) (ActQ w S pb me number { st with prob := node } lay (ls ++ [⟨st.prob, kind, node, min hops 254 + 1, sm, false⟩]))) := by
  obtain ⟨hx, hhx⟩ : ∃ x, min hops 254 + 1 = x := ⟨_, rfl⟩
  rw [hhx]
  have c0 : Chg NoB w (w.alloc (.cells #[.int .i64 kind, .int .i64 pg, .int .i64 node, .int .i64 hx, .int .u16 sm, .slice dp dn dc] 52)) := (Chg.refl NoB w).alloc _
  have hM := Blk.new w #[.int .i64 kind, .int .i64 pg, .int .i64 node, .int .i64 hx, .int .u16 sm, .slice dp dn dc] 52
  have h2 := h.chg0 c0
  have hs := h.s
  have hpl := hb pb hs
  obtain ⟨right, owner, prob, set, want, wait, held, forget⟩ := st
  obtain rfl : owner = false := ho
  obtain ⟨rb0, v0, SL0, -, -, hBw, -, -⟩ := h.ex
  have f3 := hBw.cell' (i := 3) (v := .bool false) rfl
  have fl0 := hBw.lt
  obtain ⟨mi, hmi⟩ : ∃ x, (if 254 < hops then (254 : Int) else hops) = x := ⟨_, rfl⟩
  have e1 : mi + 1 = hx := by rw [← hhx, ← hmi]; split <;> omega
  have HE1 := Lib.hid (And.intro hmi e1)
  have HB := Lib.hid hb
  clear hBw h e1 hhx hmi
  go_enter Tryz.func68, Tryz.ntmps68
  go_upto_region 5 with fail
  simp only [HE1.out.1, HE1.out.2]
  generalize w.alloc (.cells #[.int .i64 kind, .int .i64 pg, .int .i64 node, .int .i64 hx, .int .u16 sm, .slice dp dn dc] 52) = w0 at *
  obtain ⟨mb, hmb⟩ : ∃ mb, w.heap.size = mb := ⟨_, rfl⟩
  have hz0 := c0.size
  have HMB := Lib.hid hmb
  rw [hmb] at hM hpl hz0
  simp only [hmb]
  obtain ⟨rb, v, SL, -, -, hB, -, -⟩ := h2.ex
  have hB : Blk w0 pb #[.int .i64 me, .int .i64 number, .int .i64 right, .bool false, .int .i64 prob, .int .u16 set, .int .i64 want, .int .u16 wait, .bool held, .int .i64 forget, .int .i64 0, .pointer (some ⟨rb, 0, none⟩), v, .bool lay] 128 := hB
  have cd := (Chg.refl NoB w0).drew
  have HSay := Lib.hid (say_w (h2.chg0 cd) (fun k hk => by have h3 := HB.out k hk; have h4 := cd.size; omega) hl prob kind pg node hx sm dp dn dc false)
  have g : ∀ w', Chg NoB w0 w' → ∀ i, w'.cell? ⟨pb, i, none⟩ = #[.int .i64 me, .int .i64 number, .int .i64 right, .bool false, .int .i64 prob, .int .u16 set, .int .i64 want, .int .u16 wait, .bool held, .int .i64 forget, .int .i64 0, .pointer (some ⟨rb, 0, none⟩), v, .bool lay][i]? := fun w' k i => (k.blk0 hB).cell i
  have gl : ∀ w', Chg NoB w0 w' → pb < w'.heap.size := fun w' k => (k.blk0 hB).lt
  have m : ∀ w', Chg NoB w0 w' → ∀ i, w'.cell? ⟨mb, i, none⟩ = #[.int .i64 kind, .int .i64 pg, .int .i64 node, .int .i64 hx, .int .u16 sm, .slice dp dn dc][i]? := fun w' k i => (k.blk0 hM).cell i
  have ml : ∀ w', Chg NoB w0 w' → mb < w'.heap.size := fun w' k => (k.blk0 hM).lt
  have cc := Chg.refl NoB w0
  have HC := Lib.hid (And.intro hs (And.intro c0 cd))
  have HM := Lib.hid (And.intro hM hpl)
  clear hB hM hpl h2 hs c0 cd f3 fl0 hmb hz0 hl
  refine wp_region_mix 7 [(true, 0), (true, 1), (true, 2), (true, 3), (true, 4), (true, 5), (true, 6)] (fun w' => Chg NoB w0 w') (by kernel_rfl) (by kernel_rfl) (fun _ _ _ _ _ h => h) (cc.drew) ?_
  simp only [pickMix_nil, pickMix_cons, Option.getD_some, List.getElem?_toArray, List.getElem?_cons_zero, List.getElem?_cons_succ, List.cons_append, List.nil_append, List.drop_succ_cons, List.drop_zero]
  iterate 7
   refine wpMix_take rfl ?_
   apply Exists.intro
   refine ⟨fun wS hS => ?_, ?_⟩
   · try dsimp only at hS
     have cS := hS
     go_simp
     try rfl
   simp only [Act.put, List.setIfInBounds_toArray, List.set_cons_zero, List.set_cons_succ]
  refine wpMix_nil ?_
  clear g gl m ml cc
  go_wp2_with fail
  with_reducible refine HSay.out.mono ?_
  rintro e w1 ⟨rfl, hX, hCX⟩
  have hM1 := hCX.blk (HC.out.2.2.blk0 HM.out.1) fun e => by have h3 := HB.out _ e; have h4 := HM.out.2; have h5 := HMB.out; omega
  have c1 := (Chg.refl (fun k => k = pb) w1).setCell (a := ⟨pb, 4, none⟩) (.inl rfl) (.int .i64 node)
  have h4 := hX.upd (st' := ⟨right, false, node, set, want, wait, held, forget⟩) (lay' := lay) (fun rb v hB => hB.set 4 (.int .i64 node)) c1
  have HF : Hid (ActQ w S pb me number ⟨right, false, node, set, want, wait, held, forget⟩ lay (ls ++ [⟨prob, kind, node, hx, sm, false⟩]) (w1.setCell ⟨pb, 4, none⟩ (.int .i64 node))) := Lib.hid (ActQ.of0 HC.out.2.1 (ActQ.of0 HC.out.2.2 ⟨h4, hCX.trans (c1.mono (S' := S) fun k _ e => by have e : k = pb := e; rw [e]; exact HC.out.1) fun _ _ e => e⟩))
  obtain ⟨rb1, v1, SL1, -, -, hB1, -, -⟩ := hX.ex
  have hB1 : Blk w1 pb #[.int .i64 me, .int .i64 number, .int .i64 right, .bool false, .int .i64 prob, .int .u16 set, .int .i64 want, .int .u16 wait, .bool held, .int .i64 forget, .int .i64 0, .pointer (some ⟨rb1, 0, none⟩), v1, .bool lay] 128 := hB1
  have f := hB1.cell
  have fz := hB1.frozen
  have fl := hB1.lt
  have m := hM1.cell
  have ml := hM1.lt
  clear hB1 hM1 hX hCX c1 h4
  go_wp2_with fail
  refine bodyPost_end (results_none rfl _ _ _) rfl ?_
  exact ⟨rfl, HF.out⟩
set_option maxHeartbeats 4000000 in
set_option maxRecDepth 100000 in
/-- The owner gives a copy. -/
theorem serve_copy {w : World} {S : Nat → Prop} {pb : Nat} {me number : Int} {st : PgS} {lay : Bool} {ls : List Lt} (h : PgT w S pb me number st lay ls) (hb : ∀ k, S k → k < w.heap.size) (hl : ls.length ≤ 1000) (ho : st.owner = true) (hsb : st.set < 65536) (node : Nat) (hn : node < 16) (pg hops : Int) (sm : Nat) (dp : Option Addr) (dn dc : Nat) :
    Calls Tryz.prog 68 #[.pointer (some ⟨pb, 0, none⟩), .agg #[.int .i64 1, .int .i64 pg, .int .i64 node, .int .i64 hops, .int .u16 sm, .slice dp dn dc]] w (RetW (.tuple #[]) (ActQ w S pb me number { st with set := naddF st.set node, right := min st.right 1 } lay (ls ++ [⟨node, 3, me, 0, 0, true⟩]))) := by
  have c0 : Chg NoB w (w.alloc (.cells #[.int .i64 1, .int .i64 pg, .int .i64 node, .int .i64 hops, .int .u16 sm, .slice dp dn dc] 52)) := (Chg.refl NoB w).alloc _
  have hM := Blk.new w #[.int .i64 1, .int .i64 pg, .int .i64 node, .int .i64 hops, .int .u16 sm, .slice dp dn dc] 52
  have h2 := h.chg0 c0
  have hs := h.s
  have hpl := hb pb hs
  obtain ⟨right, owner, prob, set, want, wait, held, forget⟩ := st
  obtain rfl : owner = true := ho
  have HA := Lib.hid (nAddH set node hsb hn)
  obtain ⟨sx, hsx⟩ : ∃ x, naddF set node = x := ⟨_, rfl⟩
  obtain ⟨rx, hrx⟩ : ∃ x, (if 1 < right then (1 : Int) else right) = x := ⟨_, rfl⟩
  have hrm : min right 1 = rx := by rw [← hrx]; split <;> omega
  rw [hsx] at HA
  show Calls _ _ _ _ (RetW _ (ActQ w S pb me number ⟨min right 1, true, prob, naddF set node, want, wait, held, forget⟩ lay _))
  rw [hsx, hrm]
  have HRX := Lib.hid hrx
  have HB := Lib.hid hb
  have HL := Lib.hid hl
  clear h hsb hn hsx hrx hrm hb hl
  go_enter Tryz.func68, Tryz.ntmps68
  obtain ⟨rb, v, SL, -, -, hB, -, -⟩ := h2.ex
  have hB : Blk (w.alloc (.cells #[.int .i64 1, .int .i64 pg, .int .i64 node, .int .i64 hops, .int .u16 sm, .slice dp dn dc] 52)) pb #[.int .i64 me, .int .i64 number, .int .i64 right, .bool true, .int .i64 prob, .int .u16 set, .int .i64 want, .int .u16 wait, .bool held, .int .i64 forget, .int .i64 0, .pointer (some ⟨rb, 0, none⟩), v, .bool lay] 128 := hB
  have f := hB.cell
  have fz := hB.frozen
  have fl := hB.lt
  go_upto_region 8 with fail
  generalize w.alloc (.cells #[.int .i64 1, .int .i64 pg, .int .i64 node, .int .i64 hops, .int .u16 sm, .slice dp dn dc] 52) = w0 at *
  obtain ⟨mb, hmb⟩ : ∃ mb, w.heap.size = mb := ⟨_, rfl⟩
  have HMB := Lib.hid hmb
  rw [hmb] at hM hpl
  simp only [hmb]
  have m := hM.cell
  have ml := hM.lt
  have HM := Lib.hid (And.intro hM hpl)
  have H2 := Lib.hid h2
  have HC := Lib.hid (And.intro hs c0)
  clear hM hpl h2 hs c0 hmb hB
  refine wp_region_plan 12 [] [0, 1, 2, 3, 4, 5, 6, 7, 8, 9, 10, 11] (by kernel_rfl) (by kernel_rfl) (fun _ _ _ _ _ h => h) ?_
  simp only [pickOps_nil, pickOps_cons, Option.getD_some, List.getElem?_toArray, List.getElem?_cons_zero, List.getElem?_cons_succ, List.cons_append, List.nil_append, List.drop_succ_cons, List.drop_zero]
  repeat (go_big_quiet_step ((go_at_call 109; exact quiet0 ((HA.out _).mono fun e w' h => ⟨h.1, h.2.symm⟩))))
  refine wpQuiet_nil ?_
  intro w1 hw1
  have C1 := Chg.of_ex hw1
  clear hw1
  clear f fz fl m ml
  have h3 := H2.out.chg0 C1
  have hM1 := C1.blk0 HM.out.1
  obtain ⟨rb, v, SL, -, -, hB, -, -⟩ := h3.ex
  have hB : Blk w1 pb #[.int .i64 me, .int .i64 number, .int .i64 right, .bool true, .int .i64 prob, .int .u16 set, .int .i64 want, .int .u16 wait, .bool held, .int .i64 forget, .int .i64 0, .pointer (some ⟨rb, 0, none⟩), v, .bool lay] 128 := hB
  have f := hB.cell
  have fz := hB.frozen
  have fl := hB.lt
  have c2 := ((Chg.refl (fun k => k = pb) w1).setCell (a := ⟨pb, 5, none⟩) (.inl rfl) (.int .u16 sx)).setCell (a := ⟨pb, 2, none⟩) (.inl rfl) (.int .i64 rx)
  have h4 := h3.upd (st' := ⟨rx, true, prob, sx, want, wait, held, forget⟩) (lay' := lay) (fun rb v hB => (hB.set 5 (.int .u16 sx)).set 2 (.int .i64 rx)) c2
  have hM2 := c2.blk hM1 (by have := HM.out.2; omega)
  go_upto_region 10 with fail
  simp only [HRX.out]
  clear hB f fz fl h3 hM1
  generalize (w1.setCell ⟨pb, 5, none⟩ (.int .u16 sx)).setCell ⟨pb, 2, none⟩ (.int .i64 rx) = w2 at *
  obtain ⟨rb, v, SL, -, -, hB, -, -⟩ := h4.ex
  have hB : Blk w2 pb #[.int .i64 me, .int .i64 number, .int .i64 rx, .bool true, .int .i64 prob, .int .u16 sx, .int .i64 want, .int .u16 wait, .bool held, .int .i64 forget, .int .i64 0, .pointer (some ⟨rb, 0, none⟩), v, .bool lay] 128 := hB
  have g : ∀ w', Chg NoB w2 w' → ∀ i, w'.cell? ⟨pb, i, none⟩ = #[.int .i64 me, .int .i64 number, .int .i64 rx, .bool true, .int .i64 prob, .int .u16 sx, .int .i64 want, .int .u16 wait, .bool held, .int .i64 forget, .int .i64 0, .pointer (some ⟨rb, 0, none⟩), v, .bool lay][i]? := fun w' k i => (k.blk0 hB).cell i
  have gl : ∀ w', Chg NoB w2 w' → pb < w'.heap.size := fun w' k => (k.blk0 hB).lt
  have m : ∀ w', Chg NoB w2 w' → ∀ i, w'.cell? ⟨mb, i, none⟩ = #[.int .i64 1, .int .i64 pg, .int .i64 node, .int .i64 hops, .int .u16 sm, .slice dp dn dc][i]? := fun w' k i => (k.blk0 hM2).cell i
  have ml : ∀ w', Chg NoB w2 w' → mb < w'.heap.size := fun w' k => (k.blk0 hM2).lt
  have cc := Chg.refl NoB w2
  have hzz := c2.size
  have hz1 := C1.size
  have hz0 := HC.out.2.size
  have hsay := say_w (h4.chg0 cc.drew) (fun k hk => by have h5 := HB.out k hk; have h6 := cc.drew.size; omega) HL.out node 3 0 me 0 0 none 0 0 true
  rw [show ((0 : Nat) : Int) = 0 from rfl] at hsay
  have HSay := Lib.hid hsay
  have HC2 := Lib.hid (And.intro (HC.out.2.step C1) c2)
  clear hsay hB hM2 h4 c2 C1 hzz hz1 hz0
  refine wp_region_mix 8 [(true, 0), (true, 1), (true, 2), (true, 3), (true, 4), (true, 5), (true, 6), (true, 7)] (fun w' => Chg NoB w2 w') (by kernel_rfl) (by kernel_rfl) (fun _ _ _ _ _ h => h) (cc.drew) ?_
  simp only [pickMix_nil, pickMix_cons, Option.getD_some, List.getElem?_toArray, List.getElem?_cons_zero, List.getElem?_cons_succ, List.cons_append, List.nil_append, List.drop_succ_cons, List.drop_zero]
  iterate 8
   refine wpMix_take rfl ?_
   apply Exists.intro
   refine ⟨fun wS hS => ?_, ?_⟩
   · try dsimp only at hS
     have cS := hS
     go_simp
     try rfl
   simp only [Act.put, List.setIfInBounds_toArray, List.set_cons_zero, List.set_cons_succ]
  refine wpMix_nil ?_
  clear g gl m ml
  have HCC := Lib.hid cc.drew
  clear cc
  go_wp2_with fail
  with_reducible refine HSay.out.mono ?_
  rintro e w3 ⟨rfl, hX⟩
  have HX := Lib.hid (ActQ.of0 HC2.out.1 (ActQ.of HC.out.1 HC2.out.2 (ActQ.of0 HCC.out hX)))
  clear hX
  go_wp2_with fail
  refine bodyPost_end (results_none rfl _ _ _) rfl ?_
  exact ⟨rfl, HX.out⟩
end Go.Proofs.YtdjaeoeejcmhdaaGreatDoor
