/- Pages that talk: the owner grants; who asks while nothing is under way. No condition. Pages that talk: who asks, while nothing is under way; an instruction is done. No condition. -/
import Derived.Test.YtdjaeoeejcmhdaaGreatDoorHg
set_option linter.unusedVariables false
set_option linter.unusedSimpArgs false
namespace Go.Proofs.YtdjaeoeejcmhdaaGreatDoor
open Go.RowKit Go.RR
set_option maxHeartbeats 4000000 in
set_option maxRecDepth 100000 in
/-- The owner grants the page. -/
theorem serve_grant {w : World} {S : Nat → Prop} {pb : Nat} {me number : Int} {st : PgS} {lay : Bool} {ls : List Lt} (h : PgT w S pb me number st lay ls) (hb : ∀ k, S k → k < w.heap.size) (hl : ls.length ≤ 1000) (ho : st.owner = true) (hsb : st.set < 65536) (node : Nat) (hn : node < 16) (pg hops : Int) (sm : Nat) (dp : Option Addr) (dn dc : Nat) :
    Calls Tryz.prog 68 #[.pointer (some ⟨pb, 0, none⟩), .agg #[.int .i64 2, .int .i64 pg, .int .i64 node, .int .i64 hops, .int .u16 sm, .slice dp dn dc]] w (RetW (.tuple #[]) (ActQ w S pb me number { st with owner := false, set := 0, right := 0, prob := node } lay (ls ++ [⟨node, 4, me, 0, ndropF st.set node, true⟩]))) := by
  have c0 : Chg NoB w (w.alloc (.cells #[.int .i64 2, .int .i64 pg, .int .i64 node, .int .i64 hops, .int .u16 sm, .slice dp dn dc] 52)) := (Chg.refl NoB w).alloc _
  have hM := Blk.new w #[.int .i64 2, .int .i64 pg, .int .i64 node, .int .i64 hops, .int .u16 sm, .slice dp dn dc] 52
  have h2 := h.chg0 c0
  have hs := h.s
  have hpl := hb pb hs
  obtain ⟨right, owner, prob, set, want, wait, held, forget⟩ := st
  obtain rfl : owner = true := ho
  have HD := Lib.hid (nDropH set node hsb hn)
  obtain ⟨sx, hsx⟩ : ∃ x, ndropF set node = x := ⟨_, rfl⟩
  rw [hsx] at HD
  show Calls _ _ _ _ (RetW _ (ActQ w S pb me number ⟨0, false, node, 0, want, wait, held, forget⟩ lay (ls ++ [⟨node, 4, me, 0, ndropF set node, true⟩])))
  rw [hsx]
  have HB := Lib.hid hb
  have HL := Lib.hid hl
  clear h hsb hn hsx hb hl
  go_enter Tryz.func68, Tryz.ntmps68
  obtain ⟨rb, v, SL, -, -, hB, -, -⟩ := h2.ex
  have hB : Blk (w.alloc (.cells #[.int .i64 2, .int .i64 pg, .int .i64 node, .int .i64 hops, .int .u16 sm, .slice dp dn dc] 52)) pb #[.int .i64 me, .int .i64 number, .int .i64 right, .bool true, .int .i64 prob, .int .u16 set, .int .i64 want, .int .u16 wait, .bool held, .int .i64 forget, .int .i64 0, .pointer (some ⟨rb, 0, none⟩), v, .bool lay] 128 := hB
  have f := hB.cell
  have fl := hB.lt
  go_upto_region 1 with fail
  clear f fl
  generalize w.alloc (.cells #[.int .i64 2, .int .i64 pg, .int .i64 node, .int .i64 hops, .int .u16 sm, .slice dp dn dc] 52) = w0 at *
  obtain ⟨mb, hmb⟩ : ∃ mb, w.heap.size = mb := ⟨_, rfl⟩
  have HMB := Lib.hid hmb
  rw [hmb] at hM hpl
  simp only [hmb]
  have g : ∀ w', Chg NoB w0 w' → ∀ i, w'.cell? ⟨pb, i, none⟩ = #[.int .i64 me, .int .i64 number, .int .i64 right, .bool true, .int .i64 prob, .int .u16 set, .int .i64 want, .int .u16 wait, .bool held, .int .i64 forget, .int .i64 0, .pointer (some ⟨rb, 0, none⟩), v, .bool lay][i]? := fun w' k i => (k.blk0 hB).cell i
  have gl : ∀ w', Chg NoB w0 w' → pb < w'.heap.size := fun w' k => (k.blk0 hB).lt
  have m : ∀ w', Chg NoB w0 w' → ∀ i, w'.cell? ⟨mb, i, none⟩ = #[.int .i64 2, .int .i64 pg, .int .i64 node, .int .i64 hops, .int .u16 sm, .slice dp dn dc][i]? := fun w' k i => (k.blk0 hM).cell i
  have ml : ∀ w', Chg NoB w0 w' → mb < w'.heap.size := fun w' k => (k.blk0 hM).lt
  have cc := Chg.refl NoB w0
  have hz0 := c0.size
  have HSay := Lib.hid (say_w (h2.chg0 cc.drew) (fun k hk => by have h5 := HB.out k hk; have h6 := cc.drew.size; omega) HL.out node 4 0 me 0 sx none 0 0 true)
  have HM := Lib.hid (And.intro hM hpl)
  have HC := Lib.hid (And.intro hs c0)
  clear hB hM hpl h2 hs c0 hmb hz0
  refine wp_region_mix 16 [(true, 0), (true, 1), (true, 2), (true, 3), (true, 4), (true, 5), (true, 6), (true, 7), (true, 8), (true, 9), (true, 10), (true, 11), (true, 12), (true, 13), (false, 14), (true, 15)] (fun w' => Chg NoB w0 w') (by kernel_rfl) (by kernel_rfl) (fun _ _ _ _ _ h => h) (cc.drew) ?_
  simp only [pickMix_nil, pickMix_cons, Option.getD_some, List.getElem?_toArray, List.getElem?_cons_zero, List.getElem?_cons_succ, List.cons_append, List.nil_append, List.drop_succ_cons, List.drop_zero]
  iterate 14
   refine wpMix_take rfl ?_
   apply Exists.intro
   refine ⟨fun wS hS => ?_, ?_⟩
   · try dsimp only at hS
     have cS := hS
     go_simp
     try rfl
   simp only [Act.put, List.setIfInBounds_toArray, List.set_cons_zero, List.set_cons_succ]
  refine wpMix_force rfl (fun K hK => ?_)
  go_simp
  with_reducible refine (HD.out _).mono ?_
  rintro e wa ⟨rfl, hwa⟩
  subst hwa
  refine hK _ _ cc.drew ?_
  clear hK K
  refine wpMix_take rfl ?_
  apply Exists.intro
  refine ⟨fun wS hS => ?_, ?_⟩
  · try dsimp only at hS
    have cS := hS
    go_simp
    try rfl
  simp only [Act.put, List.setIfInBounds_toArray, List.set_cons_zero, List.set_cons_succ]
  refine wpMix_nil ?_
  clear g gl m ml
  have HCC := Lib.hid cc.drew
  clear cc
  go_wp2_with fail
  with_reducible refine HSay.out.mono ?_
  rintro e w1 ⟨rfl, hX, hCX⟩
  have hM1 := hCX.blk (HCC.out.blk0 HM.out.1) fun e => by have h3 := HB.out _ e; have h4 := HM.out.2; have h5 := HMB.out; omega
  obtain ⟨rb, v, SL, -, -, hB, -, -⟩ := hX.ex
  have hB : Blk w1 pb #[.int .i64 me, .int .i64 number, .int .i64 right, .bool true, .int .i64 prob, .int .u16 set, .int .i64 want, .int .u16 wait, .bool held, .int .i64 forget, .int .i64 0, .pointer (some ⟨rb, 0, none⟩), v, .bool lay] 128 := hB
  have f := hB.cell
  have fz := hB.frozen
  have fl := hB.lt
  have m := hM1.cell
  have ml := hM1.lt
  have HX := Lib.hid (And.intro hX hCX)
  have HB1 := Lib.hid hB
  have hM1' := hM1
  clear hX hCX hM1 hB
  have HMB1 := Lib.hid (hM1')
  have hnm : ¬ mb = pb := by have := HM.out.2; omega
  clear m ml
  have m : ∀ w', Chg (fun k => k = pb) w1 w' → w'.cell? ⟨mb, 2, none⟩ = some (.int .i64 node) := fun w' k => (k.blk HMB1.out hnm).cell' (i := 2) rfl
  have ml : ∀ w', Chg (fun k => k = pb) w1 w' → mb < w'.heap.size := fun w' k => (k.blk HMB1.out hnm).lt
  have c1 := Chg.refl (fun k => k = pb) w1
  go_upto_region 2 with fail
  refine wp_region_mix 21 [(true, 0), (true, 1), (true, 2), (true, 3), (true, 4), (true, 5), (true, 6), (true, 7), (true, 8), (false, 9), (true, 10), (true, 11), (true, 12), (false, 13), (true, 14), (true, 15), (true, 16), (false, 17), (true, 18), (true, 19), (true, 20)] (fun w' => Chg (fun k => k = pb) w1 w') (by kernel_rfl) (by kernel_rfl) (fun _ _ _ _ _ h => h) (c1.drew) ?_
  simp only [pickMix_nil, pickMix_cons, Option.getD_some, List.getElem?_toArray, List.getElem?_cons_zero, List.getElem?_cons_succ, List.cons_append, List.nil_append, List.drop_succ_cons, List.drop_zero]
  iterate 9
   refine wpMix_take rfl ?_
   apply Exists.intro
   refine ⟨fun wS hS => ?_, ?_⟩
   · try dsimp only at hS
     have cS := hS
     go_simp
     try rfl
   simp only [Act.put, List.setIfInBounds_toArray, List.set_cons_zero, List.set_cons_succ]
  refine wpMix_force rfl (fun K hK => ?_)
  go_simp
  refine hK _ _ (c1.drew.setCell (a := ⟨pb, 3, none⟩) (.inl rfl) _) ?_
  clear hK K
  iterate 3
   refine wpMix_take rfl ?_
   apply Exists.intro
   refine ⟨fun wS hS => ?_, ?_⟩
   · try dsimp only at hS
     have cS := hS
     go_simp
     try rfl
   simp only [Act.put, List.setIfInBounds_toArray, List.set_cons_zero, List.set_cons_succ]
  refine wpMix_force rfl (fun K hK => ?_)
  go_simp
  refine hK _ _ ((c1.drew.setCell (a := ⟨pb, 3, none⟩) (.inl rfl) _).setCell (a := ⟨pb, 5, none⟩) (.inl rfl) _) ?_
  clear hK K
  iterate 3
   refine wpMix_take rfl ?_
   apply Exists.intro
   refine ⟨fun wS hS => ?_, ?_⟩
   · try dsimp only at hS
     have cS := hS
     go_simp
     try rfl
   simp only [Act.put, List.setIfInBounds_toArray, List.set_cons_zero, List.set_cons_succ]
  refine wpMix_force rfl (fun K hK => ?_)
  go_simp
  refine hK _ _ (((c1.drew.setCell (a := ⟨pb, 3, none⟩) (.inl rfl) _).setCell (a := ⟨pb, 5, none⟩) (.inl rfl) _).setCell (a := ⟨pb, 2, none⟩) (.inl rfl) _) ?_
  clear hK K
  iterate 3
   refine wpMix_take rfl ?_
   apply Exists.intro
   refine ⟨fun wS hS => ?_, ?_⟩
   · try dsimp only at hS
     have cS := hS
     go_simp
     try rfl
   simp only [Act.put, List.setIfInBounds_toArray, List.set_cons_zero, List.set_cons_succ]
  refine wpMix_nil ?_
  clear m ml hnm
  have c3 := ((((Chg.refl (fun k => k = pb) w1).setCell (a := ⟨pb, 3, none⟩) (.inl rfl) (.bool false)).setCell (a := ⟨pb, 5, none⟩) (.inl rfl) (.int .u16 0)).setCell (a := ⟨pb, 2, none⟩) (.inl rfl) (.int .i64 0)).setCell (a := ⟨pb, 4, none⟩) (.inl rfl) (.int .i64 node)
  have h4 := HX.out.1.upd (st' := ⟨0, false, node, 0, want, wait, held, forget⟩) (lay' := lay) (fun rb v hB => (((hB.set 3 (.bool false)).set 5 (.int .u16 0)).set 2 (.int .i64 0)).set 4 (.int .i64 node)) c3
  have HF := Lib.hid (ActQ.of0 HC.out.2 (ActQ.of0 HCC.out (show ActQ _ S pb me number ⟨0, false, node, 0, want, wait, held, forget⟩ lay (ls ++ [⟨node, 4, me, 0, sx, true⟩]) _ from ⟨h4.chg0 (Chg.refl NoB _).drew, (HX.out.2.trans (c3.mono (S' := S) fun k _ e => by have e : k = pb := e; rw [e]; exact HC.out.1) fun _ _ e => e).then0 (Chg.refl NoB _).drew⟩)))
  clear c3 h4 c1
  go_wp2_with fail
  refine bodyPost_end (results_none rfl _ _ _) rfl ?_
  exact ⟨rfl, HF.out⟩
end Go.Proofs.YtdjaeoeejcmhdaaGreatDoor
set_option linter.unusedVariables false
set_option linter.unusedSimpArgs false
namespace Go.Proofs.YtdjaeoeejcmhdaaGreatDoor
open Go.RowKit Go.RR
set_option maxHeartbeats 1000000 in
set_option maxRecDepth 100000 in
theorem busy_w {w : World} {S : Nat → Prop} {pb : Nat} {me number : Int} {st : PgS} {lay : Bool} {ls : List Lt} (h : PgT w S pb me number st lay ls) (hw : st.want = 0) (hh : st.held = false) : Calls Tryz.prog 48 #[.pointer (some ⟨pb, 0, none⟩)] w (RetW (.bool false) fun w' => w' = w) := by
  obtain ⟨right, owner, prob, set, want, wait, held, forget⟩ := st
  obtain rfl : want = 0 := hw
  obtain rfl : held = false := hh
  obtain ⟨rb, v, SL, -, -, hB, -, -⟩ := h.ex
  have f6 := hB.cell' (i := 6) (v := .int .i64 0) rfl
  have f8 := hB.cell' (i := 8) (v := .bool false) rfl
  have fl := hB.lt
  clear hB h
  go_enter Tryz.func48, Tryz.ntmps48
  go_wp2_with fail
  go_ret
  exact ⟨rfl, rfl⟩
theorem busy_parts {s : PgS} (h : s.busy = false) : s.want = 0 ∧ s.held = false := by
  unfold PgS.busy at h
  rw [Bool.or_eq_false_iff, decide_eq_false_iff_not] at h
  exact ⟨by have := h.1; omega, h.2⟩
set_option maxHeartbeats 1000000 in
set_option maxRecDepth 100000 in
theorem ask_w {w : World} {S : Nat → Prop} {pb : Nat} {me number : Int} {st st' : PgS} {lay : Bool} {ls ls' : List Lt} (h : PgT w S pb me number st lay ls) (hbz : st.busy = false) (kind pg node hops : Int) (sm : Nat) (dp : Option Addr) (dn dc : Nat)
    (HS : ∀ w', Chg NoB w w' → Calls Tryz.prog 68 #[.pointer (some ⟨pb, 0, none⟩), .agg #[.int .i64 kind, .int .i64 pg, .int .i64 node, .int .i64 hops, .int .u16 sm, .slice none 0 0]] w' (RetW (.tuple #[]) (ActQ w' S pb me number st' lay ls'))) :
    Calls Tryz.prog 74 #[.pointer (some ⟨pb, 0, none⟩), .agg #[.int .i64 kind, .int .i64 pg, .int .i64 node, .int .i64 hops, .int .u16 sm, .slice dp dn dc]] w (RetW (.tuple #[]) (ActQ w S pb me number st' lay ls')) := by
  obtain ⟨b1, b2⟩ := busy_parts hbz
  have c0 : Chg NoB w (w.alloc (.cells #[.int .i64 kind, .int .i64 pg, .int .i64 node, .int .i64 hops, .int .u16 sm, .slice none 0 0] 52)) := (Chg.refl NoB w).alloc _
  have hM := Blk.new w #[.int .i64 kind, .int .i64 pg, .int .i64 node, .int .i64 hops, .int .u16 sm, .slice none 0 0] 52
  have HBz := Lib.hid (busy_w (h.chg0 c0) b1 b2)
  have HSv := Lib.hid (HS _ c0)
  have HC := Lib.hid c0
  have m := hM.cell
  have ml := hM.lt
  clear hM h b1 b2 hbz HS c0
  go_enter Tryz.func74, Tryz.ntmps74
  go_wp2_with fail
  with_reducible refine HBz.out.mono ?_
  rintro e w1 ⟨rfl, hw1⟩
  subst hw1
  go_wp2_with fail
  with_reducible refine HSv.out.mono ?_
  rintro e w2 ⟨rfl, hX⟩
  have HX := Lib.hid (ActQ.of0 HC.out hX)
  clear hX
  go_wp2_with fail
  refine bodyPost_end (results_none rfl _ _ _) rfl ?_
  exact ⟨rfl, HX.out⟩
end Go.Proofs.YtdjaeoeejcmhdaaGreatDoor
