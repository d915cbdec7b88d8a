/- Pages that talk: what a page says in a turn. No condition. Pages that talk: tell, hold, turn, sets of nodes. No condition. Pages that talk: a turn is told. No condition. -/
import Derived.Test.YtdjaeoeejcmhdaaGreatDoorGa
import Derived.Deep.RegionHeld3
import Derived.Laws.BitsAllLaws
import Derived.Test.YtdjaeoeejcmhdaaGreatDoorGe
set_option linter.unusedVariables false
set_option linter.unusedSimpArgs false
namespace Go.Proofs.YtdjaeoeejcmhdaaGreatDoor
open Go.RowKit Go.RR
/-- A letter's cells; its bytes are laid later on. -/
def ltC (num : Int) (l : Lt) : List Value := [.int .i64 l.dst, .int .i64 l.kind, .int .i64 num, .int .i64 l.node, .int .i64 l.hops, .int .u16 l.set, .slice none 0 0, .bool l.pg]
def ltsC (num : Int) (ls : List Lt) : List Value := ls.flatMap (ltC num)
theorem ltsC_snoc (num : Int) (ls : List Lt) (l : Lt) : ltsC num (ls ++ [l]) = ltsC num ls ++ ltC num l := by unfold ltsC; rw [List.flatMap_append]; simp
def pgCx (me number : Int) (s : PgS) (rb : Nat) (v : Value) (lay : Bool) : Array Value := #[.int .i64 me, .int .i64 number, .int .i64 s.right, .bool s.owner, .int .i64 s.prob, .int .u16 s.set, .int .i64 s.want, .int .u16 s.wait, .bool s.held, .int .i64 s.forget, .int .i64 0, .pointer (some ⟨rb, 0, none⟩), v, .bool lay]
/-- A page in a turn: its state, are bytes laid, what is said; nobody stands in its line. -/
structure PgT (w : World) (S : Nat → Prop) (pb : Nat) (me number : Int) (st : PgS) (lay : Bool) (ls : List Lt) : Prop where
  s : S pb
  ex : ∃ (rb : Nat) (v : Value) (SL : Nat → Prop), S rb ∧ (∀ k, SL k → S k ∧ k ≠ pb ∧ k ≠ rb) ∧ Blk w pb (pgCx me number st rb v lay) 128 ∧ Blk w rb ringC 201 ∧ Own w SL 121 8 v ls.length (ltsC number ls)
section
variable {w w' : World} {S S' : Nat → Prop} {pb : Nat} {me number : Int} {st : PgS} {lay : Bool} {ls : List Lt}
theorem PgT.chg (h : PgT w S pb me number st lay ls) (c : Chg S' w w') (hs : ∀ k, S k → ¬ S' k) : PgT w' S pb me number st lay ls := by
  obtain ⟨rb, v, SL, h1, h2, h3, h4, h5⟩ := h.ex
  exact ⟨h.s, rb, v, SL, h1, h2, c.blk h3 (hs _ h.s), c.blk h4 (hs _ h1), h5.chg c fun k hk => hs k (h2 k hk).1⟩
theorem PgT.chg0 (h : PgT w S pb me number st lay ls) (c : Chg NoB w w') : PgT w' S pb me number st lay ls := h.chg c fun _ _ => id
theorem PgT.mono (h : PgT w S pb me number st lay ls) (hs : ∀ k, S k → S' k) : PgT w S' pb me number st lay ls := by
  obtain ⟨rb, v, SL, h1, h2, h3, h4, h5⟩ := h.ex
  exact ⟨hs _ h.s, rb, v, SL, hs _ h1, fun k hk => ⟨hs k (h2 k hk).1, (h2 k hk).2⟩, h3, h4, h5⟩
end
/-- A page behind a turn: nothing is laid, nothing said. -/
structure PgN (w : World) (S : Nat → Prop) (pb : Nat) (me number : Int) (st : PgS) : Prop where
  s : S pb
  ex : ∃ rb : Nat, S rb ∧ Blk w pb (pgCx me number st rb (.slice none 0 0) false) 128 ∧ Blk w rb ringC 201
theorem PgN.chg {w w' : World} {S S' : Nat → Prop} {pb : Nat} {me number : Int} {st : PgS} (h : PgN w S pb me number st) (c : Chg S' w w') (hs : ∀ k, S k → ¬ S' k) : PgN w' S pb me number st := by
  obtain ⟨rb, h1, h3, h4⟩ := h.ex
  exact ⟨h.s, rb, h1, c.blk h3 (hs _ h.s), c.blk h4 (hs _ h1)⟩
theorem PgN.chg0 {w w' : World} {S : Nat → Prop} {pb : Nat} {me number : Int} {st : PgS} (h : PgN w S pb me number st) (c : Chg NoB w w') : PgN w' S pb me number st := h.chg c fun _ _ => id
theorem PgN.mono {w : World} {S S' : Nat → Prop} {pb : Nat} {me number : Int} {st : PgS} (h : PgN w S pb me number st) (hs : ∀ k, S k → S' k) : PgN w S' pb me number st := by
  obtain ⟨rb, h1, h3, h4⟩ := h.ex
  exact ⟨hs _ h.s, rb, hs _ h1, h3, h4⟩
theorem PgN.toT {w : World} {S : Nat → Prop} {pb : Nat} {me number : Int} {st : PgS} (h : PgN w S pb me number st) : PgT w S pb me number st false [] := by
  obtain ⟨rb, h1, h3, h4⟩ := h.ex
  exact ⟨h.s, rb, .slice none 0 0, fun _ => False, h1, fun _ e => e.elim, h3, h4, Own.nil _ _ _ _⟩
theorem LTi : (Tryz.prog.info? 121).map (fun i => (i.zero, i.size, i.bytes)) = some (some (.agg #[.int .i64 0, .int .i64 0, .int .i64 0, .int .i64 0, .int .i64 0, .int .u16 0, .slice none 0 0, .bool false]), 8, 80) := by kernel_rfl
set_option maxHeartbeats 2000000 in
set_option maxRecDepth 100000 in
theorem say_w {w : World} {S : Nat → Prop} {pb : Nat} {me number : Int} {st : PgS} {lay : Bool} {ls : List Lt} (h : PgT w S pb me number st lay ls) (hb : ∀ k, S k → k < w.heap.size) (hl : ls.length ≤ 1000) (dst kind pg node hops : Int) (sm : Nat) (dp : Option Addr) (dn dc : Nat) (b : Bool) :
    Calls Tryz.prog 95 #[.pointer (some ⟨pb, 0, none⟩), .int .i64 dst, .agg #[.int .i64 kind, .int .i64 pg, .int .i64 node, .int .i64 hops, .int .u16 sm, .slice dp dn dc], .bool b] w (RetW (.tuple #[]) fun w' => PgT w' (Grow S w) pb me number st lay (ls ++ [⟨dst, kind, node, hops, sm, b⟩]) ∧ Chg S w w') := by
  obtain ⟨right, owner, prob, set, want, wait, held, forget⟩ := st
  obtain ⟨rb, v, SL, hrb, hSL, hB, hR, hO⟩ := h.ex
  have hne : rb ≠ pb := fun e => by have hR' := hR; rw [e] at hR'; exact absurd (hR'.inj hB).2 (by decide)
  have hB : Blk w pb #[.int .i64 me, .int .i64 number, .int .i64 right, .bool owner, .int .i64 prob, .int .u16 set, .int .i64 want, .int .u16 wait, .bool held, .int .i64 forget, .int .i64 0, .pointer (some ⟨rb, 0, none⟩), v, .bool lay] 128 := hB
  have hpl := hB.lt
  have f1 := hB.cell' (i := 1) (v := .int .i64 number) rfl
  have c0 : Chg NoB w (w.alloc (.cells #[.int .i64 kind, .int .i64 number, .int .i64 node, .int .i64 hops, .int .u16 sm, .slice none 0 0] 52)) := (Chg.refl NoB w).alloc _
  have hM := Blk.new w #[.int .i64 kind, .int .i64 number, .int .i64 node, .int .i64 hops, .int .u16 sm, .slice none 0 0] 52
  have HB := Lib.hid (c0.blk0 hB)
  have HR := Lib.hid (c0.blk0 hR)
  have HO := Lib.hid (hO.chg0 c0)
  have HM := Lib.hid hM
  have HC := Lib.hid c0
  have HS := Lib.hid (And.intro h.s (And.intro hrb (And.intro hSL (And.intro hne hb))))
  have HPL := Lib.hid hpl
  have HBW := Lib.hid hB
  clear hB hR hO hM c0 h hrb hSL hne hb
  go_enter Tryz.func95, Tryz.ntmps95
  go_upto_region 2 with fail
  generalize w.alloc (.cells #[.int .i64 kind, .int .i64 number, .int .i64 node, .int .i64 hops, .int .u16 sm, .slice none 0 0] 52) = w1 at *
  obtain ⟨mb, hmb⟩ : ∃ mb, w.heap.size = mb := ⟨_, rfl⟩
  have HMB := Lib.hid hmb
  rw [hmb] at HM
  simp only [hmb]
  clear hmb f1 hpl
  have hv := HO.out.ownBlock
  have hv1 : ¬ v.ownBlock = some pb := fun e => (HS.out.2.2.1 _ (hv _ e).1).2.1 rfl
  have hv2 : ¬ v.ownBlock = some mb := fun e => by have h1 := HS.out.2.2.2.2 _ (HS.out.2.2.1 _ (hv _ e).1).1; have h2 := HMB.out; omega
  have g : ∀ w', Chg (fun k => v.ownBlock = some k) w1 w' → ∀ i, w'.cell? ⟨pb, i, none⟩ = #[.int .i64 me, .int .i64 number, .int .i64 right, .bool owner, .int .i64 prob, .int .u16 set, .int .i64 want, .int .u16 wait, .bool held, .int .i64 forget, .int .i64 0, .pointer (some ⟨rb, 0, none⟩), v, .bool lay][i]? := fun w' k i => (k.blk HB.out hv1).cell i
  have gl : ∀ w', Chg (fun k => v.ownBlock = some k) w1 w' → pb < w'.heap.size := fun w' k => (k.blk HB.out hv1).lt
  have m : ∀ w', Chg (fun k => v.ownBlock = some k) w1 w' → ∀ i, w'.cell? ⟨mb, i, none⟩ = #[.int .i64 kind, .int .i64 number, .int .i64 node, .int .i64 hops, .int .u16 sm, .slice none 0 0][i]? := fun w' k i => (k.blk HM.out hv2).cell i
  have ml : ∀ w', Chg (fun k => v.ownBlock = some k) w1 w' → mb < w'.heap.size := fun w' k => (k.blk HM.out hv2).lt
  have oX := Lib.hid (HO.out.chg0 (((Chg.refl NoB w1).alloc (.cells #[.int .i64 dst, .int .i64 kind, .int .i64 number, .int .i64 node, .int .i64 hops, .int .u16 sm, .slice none 0 0, .bool b] 121)).drew))
  have sX := Lib.hid ((Sl.fresh w1 [.int .i64 dst, .int .i64 kind, .int .i64 number, .int .i64 node, .int .i64 hops, .int .u16 sm, .slice none 0 0, .bool b] 121 1 (size := 8) rfl).chg0 (Chg.refl NoB _).drew)
  have one : ∀ u ∈ ([.int .i64 dst, .int .i64 kind, .int .i64 number, .int .i64 node, .int .i64 hops, .int .u16 sm, .slice none 0 0, .bool b] : List Value), u.oneCell' = true := by simp [Value.oneCell']
  have b1 : ls.length + 1 ≤ maxLen := by unfold maxLen; omega
  have b2 : (ls.length + 1) * 80 ≤ 140737488355328 := by omega
  obtain ⟨i0, hi0, hz0, hz1, hz2⟩ := info_parts LTi
  have cv := Chg.refl (fun k => v.ownBlock = some k) w1
  have HV := Lib.hid (And.intro hv (And.intro hv1 hv2))
  clear hv hv1 hv2
  refine wp_region_mix 13 [(true, 0), (true, 1), (true, 2), (true, 3), (true, 4), (true, 5), (true, 6), (true, 7), (true, 8), (false, 9), (false, 10), (true, 11), (true, 12)] (fun w' => Chg (fun k => v.ownBlock = some k) w1 w') (by kernel_rfl) (by kernel_rfl) (fun _ _ _ _ _ h => h) (cv.drew) ?_
  simp only [pickMix_nil, pickMix_cons, Option.getD_some, List.getElem?_toArray, List.getElem?_cons_zero, List.getElem?_cons_succ, List.cons_append, List.nil_append, List.drop_succ_cons, List.drop_zero]
  iterate 9
   refine wpMix_take rfl ?_
   apply Exists.intro
   refine ⟨fun wS hS => ?_, ?_⟩
   · try dsimp only at hS
     have cS := hS
     go_simp
     try rfl
   simp only [Act.put, List.setIfInBounds_toArray, List.set_cons_zero, List.set_cons_succ]
  refine wpMix_force rfl (fun K hK => ?_)
  go_simp
  refine hK _ _ (cv.drew.alloc _) ?_
  clear hK K
  refine wpMix_force rfl (fun K hK => ?_)
  refine opwp_app (v := v) _ _ 71 rfl i0 _ 80 Tryz.underlying71 hi0 hz0 hz1 hz2 rfl (by rfl) oX.out _ 1 _ (by rfl) sX.out one b1 b2 ?_
  intro v' w5 ho5 hg5 hn5
  have c5 : Chg (fun k => v.ownBlock = some k) w1 w5 := (cv.alloc (.cells #[.int .i64 dst, .int .i64 kind, .int .i64 number, .int .i64 node, .int .i64 hops, .int .u16 sm, .slice none 0 0, .bool b] 121)).drew.step (grown_chg (S := fun k => v.ownBlock = some k) hg5 fun k hk => hk)
  refine hK _ _ c5 ?_
  clear hK K
  iterate 2
   refine wpMix_take rfl ?_
   apply Exists.intro
   refine ⟨fun wS hS => ?_, ?_⟩
   · try dsimp only at hS
     have cS := hS
     go_simp
     try rfl
   simp only [Act.put, List.setIfInBounds_toArray, List.set_cons_zero, List.set_cons_succ]
  refine wpMix_nil ?_
  obtain ⟨p', c', rfl⟩ := ho5.form
  have hB5 := c5.blk HB.out HV.out.2.1
  have hR5 := c5.blk HR.out fun e => (HS.out.2.2.1 _ (HV.out.1 _ e).1).2.2 rfl
  have f := hB5.cell
  have fz := hB5.frozen
  have fl := hB5.lt
  have c6 := (Chg.refl (fun k => k = pb) w5).setCell (a := ⟨pb, 12, none⟩) (.inl rfl) (.slice p' (ls.length + 1) c')
  have hz1 := HC.out.size
  have hO6 := (ho5.mono (S' := fun k => v.ownBlock = some k ∨ k = w1.heap.size + 1) fun k hk => hk.imp id fun e => by simpa using e).chg c6 fun k hk e => by
    have e : k = pb := e
    have h1 := HPL.out
    rcases hk with hk | hk
    · exact HV.out.2.1 (e ▸ hk)
    · omega
  have HF : Hid (PgT (w5.setCell ⟨pb, 12, none⟩ (.slice p' (ls.length + 1) c')) (Grow S w) pb me number ⟨right, owner, prob, set, want, wait, held, forget⟩ lay (ls ++ [⟨dst, kind, node, hops, sm, b⟩]) ∧ Chg S w (w5.setCell ⟨pb, 12, none⟩ (.slice p' (ls.length + 1) c'))) := Lib.hid (by
    refine ⟨⟨.inl HS.out.1, rb, .slice p' (ls.length + 1) c', fun k => v.ownBlock = some k ∨ k = w1.heap.size + 1, .inl HS.out.2.1, fun k hk => ?_, hB5.set 12 (.slice p' (ls.length + 1) c'), c6.blk hR5 HS.out.2.2.2.1, ?_⟩, ?_⟩
    rotate_left
    · rw [List.length_append, ltsC_snoc]
      exact hO6
    · refine ((HC.out.mono (S' := S) fun _ _ e => e.elim).trans (c5.mono (S' := S) fun k _ e => (HS.out.2.2.1 k (HV.out.1 k e).1).1) fun _ _ e => e).trans (c6.mono (S' := S) fun k _ e => by have e : k = pb := e; rw [e]; exact HS.out.1) fun _ _ e => e
    · rcases hk with hk | hk
      · obtain ⟨h1, h2, h3⟩ := HS.out.2.2.1 k (HV.out.1 k hk).1
        exact ⟨.inl h1, h2, h3⟩
      · have h1 := HS.out.2.2.2.2 _ HS.out.1
        have h2 := HS.out.2.2.2.2 _ HS.out.2.1
        exact ⟨.inr (by omega), by omega, by omega⟩)
  clear hB5 hR5 c6 hO6 ho5 hg5 hn5 c5 oX sX one b1 b2 hi0 hz0 hz2 cv g gl m ml HB HR HO HM HC HS HV HBW HPL HMB
  go_wp2_with fail
  refine bodyPost_end (results_none rfl _ _ _) rfl ?_
  exact ⟨rfl, HF.out⟩
end Go.Proofs.YtdjaeoeejcmhdaaGreatDoor
set_option linter.unusedVariables false
set_option linter.unusedSimpArgs false
namespace Go.Proofs.YtdjaeoeejcmhdaaGreatDoor
open Go.RowKit Go.RR
theorem chg_new24 {S : Nat → Prop} {w w4 w5 : World} {b : Nat} (h : Chg S w w4) (c : Chg (fun k => k = b) w4 w5) (hb : w.heap.size ≤ b) : Chg S w w5 :=
  ((h.mono (S' := fun k => S k ∨ w.heap.size ≤ k) fun _ _ e => .inl e).trans (c.mono (S' := fun k => S k ∨ w.heap.size ≤ k) fun k _ e => .inr (by rw [show k = b from e]; exact hb)) fun _ _ e => e).mono fun k hk e => e.elim id fun e => absurd e (Nat.not_le_of_lt hk)
/-- A page's own block is another one now. -/
theorem PgT.upd {w w' : World} {S : Nat → Prop} {pb : Nat} {me number : Int} {st st' : PgS} {lay lay' : Bool} {ls : List Lt} (h : PgT w S pb me number st lay ls) (hB : ∀ rb v, Blk w pb (pgCx me number st rb v lay) 128 → Blk w' pb (pgCx me number st' rb v lay') 128) (c : Chg (fun k => k = pb) w w') : PgT w' S pb me number st' lay' ls := by
  obtain ⟨rb, v, SL, h1, h2, h3, h4, h5⟩ := h.ex
  have hne : rb ≠ pb := fun e => by have h4' := h4; rw [e] at h4'; exact absurd (h4'.inj h3).2 (by decide)
  exact ⟨h.s, rb, v, SL, h1, h2, hB rb v h3, c.blk h4 hne, h5.chg c fun k hk => (h2 k hk).2.1⟩
set_option maxHeartbeats 1000000 in
set_option maxRecDepth 100000 in
theorem tell_w {w : World} {S : Nat → Prop} {pb : Nat} {me number : Int} {st : PgS} {lay : Bool} {ls : List Lt} (h : PgT w S pb me number st lay ls) (hb : ∀ k, S k → k < w.heap.size) (hl : ls.length ≤ 1000) (dst k : Int) :
    Calls Tryz.prog 52 #[.pointer (some ⟨pb, 0, none⟩), .int .i64 dst, .int .i64 k] w (RetW (.tuple #[]) fun w' => PgT w' (Grow S w) pb me number st lay (ls ++ [⟨dst, k, me, 0, 0, false⟩]) ∧ Chg S w w') := by
  have hs := say_w h hb hl dst k 0 me 0 0 none 0 0 false
  rw [show ((0 : Nat) : Int) = 0 from rfl] at hs
  have HS := Lib.hid hs
  clear hs
  obtain ⟨rb, v, SL, -, -, hB, -, -⟩ := h.ex
  have f0 := hB.cell' (i := 0) (v := .int .i64 me) rfl
  have fl := hB.lt
  clear hB h hb hl
  go_enter Tryz.func52, Tryz.ntmps52
  go_wp2_with fail
  with_reducible refine HS.out.mono ?_
  rintro e w1 ⟨rfl, hX⟩
  have HX := Lib.hid hX
  clear hX
  go_wp2_with fail
  refine bodyPost_end (results_none rfl _ _ _) rfl ?_
  exact ⟨rfl, HX.out⟩
set_option maxHeartbeats 1000000 in
set_option maxRecDepth 100000 in
theorem hold_w {w : World} {S : Nat → Prop} {pb : Nat} {me number : Int} {st : PgS} {lay : Bool} {ls : List Lt} (h : PgT w S pb me number st lay ls) (r : Int) : Calls Tryz.prog 51 #[.pointer (some ⟨pb, 0, none⟩), .int .i64 r] w (RetW (.tuple #[]) fun w' => PgT w' S pb me number (holdF st r) lay ls ∧ Chg (fun k => k = pb) w w') := by
  obtain ⟨right, owner, prob, set, want, wait, held, forget⟩ := st
  have c1 := (((Chg.refl (fun k => k = pb) w).setCell (a := ⟨pb, 2, none⟩) (.inl rfl) (.int .i64 r)).setCell (a := ⟨pb, 6, none⟩) (.inl rfl) (.int .i64 0)).setCell (a := ⟨pb, 8, none⟩) (.inl rfl) (.bool true)
  have HF := Lib.hid (And.intro (h.upd (st' := holdF ⟨right, owner, prob, set, want, wait, held, forget⟩ r) (lay' := lay) (fun rb v hB => ((hB.set 2 (.int .i64 r)).set 6 (.int .i64 0)).set 8 (.bool true)) c1) c1)
  obtain ⟨rb, v, SL, -, -, hB, -, -⟩ := h.ex
  have hB : Blk w pb #[.int .i64 me, .int .i64 number, .int .i64 right, .bool owner, .int .i64 prob, .int .u16 set, .int .i64 want, .int .u16 wait, .bool held, .int .i64 forget, .int .i64 0, .pointer (some ⟨rb, 0, none⟩), v, .bool lay] 128 := hB
  have f := hB.cell
  have fz := hB.frozen
  have fl := hB.lt
  clear hB h c1
  go_enter Tryz.func51, Tryz.ntmps51
  go_wp2_with fail
  refine bodyPost_end (results_none rfl _ _ _) rfl ?_
  exact ⟨rfl, HF.out⟩
theorem drop_bits : ∀ n < 16, 65535 - 2 ^ n = 65535 ^^^ 2 ^ n := by decide
theorem pow_small {n : Nat} (h : n < 16) : 2 ^ n < 65536 := Nat.lt_of_le_of_lt (Nat.pow_le_pow_right (by omega) (show n ≤ 15 by omega)) (by decide)
theorem nbitF_at {n : Nat} (h : n < 16) : nbitF (n : Int) = 2 ^ n := by
  unfold nbitF
  rw [if_pos ⟨by omega, by omega⟩, Int.toNat_natCast]
set_option maxRecDepth 100000 in
theorem nAddH (s n : Nat) (hs : s < 65536) (hn : n < 16) (w : World) : Calls Tryz.prog 109 #[.int .u16 s, .int .i64 n] w (RetW (.int .u16 (naddF s n : Nat)) fun w' => w' = w) := by
  have HB := Lib.hid (fun w => nbit_any n hn w)
  have hp := pow_small hn
  have e := nbitF_at hn
  have q := u16_or_nat s (2 ^ n) hs hp; have q2 : naddF s n = s ||| 2 ^ n := (by unfold naddF; rw [e]); rw [q2]
  generalize 2 ^ n = b at *
  clear hs hn hp e
  go_enter Tryz.func109, Tryz.ntmps109
  go_wp2_with fail
  with_reducible refine (HB.out _).mono ?_
  rintro e w1 ⟨rfl, hw⟩
  subst hw
  go_wp2_with fail
  go_ret
  exact ⟨rfl, rfl⟩
set_option maxRecDepth 100000 in
theorem nDropH (s n : Nat) (hs : s < 65536) (hn : n < 16) (w : World) : Calls Tryz.prog 110 #[.int .u16 s, .int .i64 n] w (RetW (.int .u16 (ndropF s n : Nat)) fun w' => w' = w) := by
  have HB := Lib.hid (fun w => nbit_any n hn w)
  have hp := pow_small hn
  have e := nbitF_at hn
  have q := u16_andNot_nat s (2 ^ n) hs hp; rw [drop_bits n hn] at q; have q2 : ndropF s n = s &&& (65535 ^^^ 2 ^ n) := (by unfold ndropF; rw [e]); rw [q2]; generalize s &&& (65535 ^^^ 2 ^ n) = r at *
  generalize 2 ^ n = b at *
  clear hs hn hp e
  go_enter Tryz.func110, Tryz.ntmps110
  go_wp2_with fail
  with_reducible refine (HB.out _).mono ?_
  rintro e w1 ⟨rfl, hw⟩
  subst hw
  go_wp2_with fail
  go_ret
  exact ⟨rfl, rfl⟩
set_option maxRecDepth 100000 in
theorem nHasH (s n : Nat) (hs : s < 65536) (hn : n < 16) (w : World) : Calls Tryz.prog 116 #[.int .u16 s, .int .i64 n] w (RetW (.bool (nhasF s n)) fun w' => w' = w) := by
  have HB := Lib.hid (fun w => nbit_any n hn w)
  have hp := pow_small hn
  have e := nbitF_at hn
  have q := u16_and_nat s (2 ^ n) hs hp
  have q2 : nhasF s n = decide (s &&& 2 ^ n ≠ 0) := by unfold nhasF; rw [e]
  rw [q2]
  have q3 : (((s &&& 2 ^ n : Nat) : Int) != 0) = decide (s &&& 2 ^ n ≠ 0) := by
    rw [Bool.eq_iff_iff]; simp
  obtain ⟨r, hr⟩ : ∃ r, decide (s &&& 2 ^ n ≠ 0) = r := ⟨_, rfl⟩
  rw [hr] at q3 ⊢
  have q4 : (((s &&& 2 ^ n : Nat) : Int) == 0) = !r := by rw [← hr]; rw [Bool.eq_iff_iff]; simp
  generalize (s &&& 2 ^ n) = y at *
  generalize 2 ^ n = b at *
  clear hs hn hp e q2 hr
  go_enter Tryz.func116, Tryz.ntmps116
  go_wp2_with fail
  with_reducible refine (HB.out _).mono ?_
  rintro e w1 ⟨rfl, hw⟩
  subst hw
  go_wp2_with fail
  go_ret
  exact ⟨rfl, rfl⟩
end Go.Proofs.YtdjaeoeejcmhdaaGreatDoor
set_option linter.unusedVariables false
set_option linter.unusedSimpArgs false
namespace Go.Proofs.YtdjaeoeejcmhdaaGreatDoor
open Go.RowKit Go.RR
/-- What a turn tells, and the page behind it. -/
def TurnQ (w : World) (S : Nat → Prop) (pb : Nat) (me number : Int) (st : PgS) (lay : Bool) (ls : List Lt) (r : Value) (w' : World) : Prop :=
  ∃ (p : Option Addr) (c : Nat) (SL S2 : Nat → Prop), r = .agg #[.bool lay, .int .i64 st.right, .slice p ls.length c] ∧ (∀ k, SL k → S k ∧ ¬ S2 k) ∧ (∀ k, S2 k → S k) ∧ Own w' SL 121 8 (.slice p ls.length c) ls.length (ltsC number ls) ∧ PgN w' S2 pb me number st ∧ Chg (fun k => k = pb) w w'
set_option maxHeartbeats 2000000 in
set_option maxRecDepth 100000 in
theorem turn_w {w : World} {S : Nat → Prop} {pb : Nat} {me number : Int} {st : PgS} {lay : Bool} {ls : List Lt} (h : PgT w S pb me number st lay ls) (hb : ∀ k, S k → k < w.heap.size) : Calls Tryz.prog 49 #[.pointer (some ⟨pb, 0, none⟩)] w (RetV (TurnQ w S pb me number st lay ls)) := by
  obtain ⟨right, owner, prob, set, want, wait, held, forget⟩ := st
  obtain ⟨rb, v, SL, hrb, hSL, hB, hR, hO⟩ := h.ex
  obtain ⟨vp, vc, rfl⟩ := hO.form
  have hne : rb ≠ pb := fun e => by have hR' := hR; rw [e] at hR'; exact absurd (hR'.inj hB).2 (by decide)
  have hB : Blk w pb #[.int .i64 me, .int .i64 number, .int .i64 right, .bool owner, .int .i64 prob, .int .u16 set, .int .i64 want, .int .u16 wait, .bool held, .int .i64 forget, .int .i64 0, .pointer (some ⟨rb, 0, none⟩), .slice vp ls.length vc, .bool lay] 128 := hB
  have HS := Lib.hid (And.intro h.s (And.intro hrb (And.intro hne (And.intro hSL hb))))
  have c0 := (Chg.refl NoB w).alloc (.cells #[.bool false, .int .i64 0, .slice none 0 0] 73)
  have HB := Lib.hid (c0.blk0 hB)
  have HR := Lib.hid (c0.blk0 hR)
  have HO := Lib.hid (hO.chg0 c0)
  have HC := Lib.hid c0
  have HB0 := Lib.hid (Blk.new w #[.bool false, .int .i64 0, .slice none 0 0] 73)
  have HLT := Lib.hid hB.lt
  clear hB hR hO h c0 hrb hne hSL hb
  go_enter Tryz.func49, Tryz.ntmps49
  go_upto_region 1 with fail
  generalize w.alloc (.cells #[.bool false, .int .i64 0, .slice none 0 0] 73) = w0 at *
  generalize hb0 : w.heap.size = b0 at *
  have HZ := Lib.hid hb0
  clear hb0
  have g : ∀ w', Chg NoB w0 w' → ∀ i, w'.cell? ⟨pb, i, none⟩ = #[.int .i64 me, .int .i64 number, .int .i64 right, .bool owner, .int .i64 prob, .int .u16 set, .int .i64 want, .int .u16 wait, .bool held, .int .i64 forget, .int .i64 0, .pointer (some ⟨rb, 0, none⟩), .slice vp ls.length vc, .bool lay][i]? := fun w' k i => (k.blk0 HB.out).cell i
  have gl : ∀ w', Chg NoB w0 w' → pb < w'.heap.size := fun w' k => (k.blk0 HB.out).lt
  have cc := Chg.refl NoB w0
  go_cut [3] (fun s3 wx => ∃ tb, s3 = .pointer (some ⟨tb, 0, none⟩) ∧ Blk wx tb #[.bool lay, .int .i64 right, .slice vp ls.length vc] 73 ∧ w0.heap.size ≤ tb ∧ Chg NoB w0 wx)
  case first =>
    go_region_held3 (fun w' => Chg NoB w0 w') ((repeat (first | with_reducible assumption | with_reducible apply Chg.drew | with_reducible apply Chg.drewN | with_reducible apply Chg.alloc))) (fail)
    all_goals go_wp2_with fail
    all_goals go_meet
    all_goals exact ⟨_, rfl, (Blk.new w0 _ _).drew, Nat.le_refl _, (cc.alloc _).drew⟩
  case rest =>
    obtain ⟨tb, rfl, hTB, hlo, hC⟩ := hcut
    rename World => w1
    have hBw : Blk w1 pb #[.int .i64 me, .int .i64 number, .int .i64 right, .bool owner, .int .i64 prob, .int .u16 set, .int .i64 want, .int .u16 wait, .bool held, .int .i64 forget, .int .i64 0, .pointer (some ⟨rb, 0, none⟩), .slice vp ls.length vc, .bool lay] 128 := hC.blk0 HB.out
    have hRw := hC.blk0 HR.out
    have hOw := HO.out.chg0 hC
    have f := hBw.cell
    have fz := hBw.frozen
    have fl := hBw.lt
    have c1 := ((Chg.refl (fun k => k = pb) w1).setCell (a := ⟨pb, 13, none⟩) (.inl rfl) (.bool false)).setCell (a := ⟨pb, 12, none⟩) (.inl rfl) (.slice none 0 0)
    have hB2 := (hBw.set 13 (.bool false)).set 12 (.slice none 0 0)
    have hR2 := c1.blk hRw HS.out.2.2.1
    have hO2 := hOw.chg c1 fun k hk e => (HS.out.2.2.2.1 k hk).2.1 e
    have hT2 := c1.blk hTB (by have h1 := HLT.out; have h2 := HC.out.size; have h3 := HZ.out; omega)
    have hZ2 := c1.blk (hC.blk0 HB0.out) (by have h1 := HLT.out; have h3 := HZ.out; omega)
    have hP2 : PgN _ (fun k => k = pb ∨ k = rb) pb me number ⟨right, owner, prob, set, want, wait, held, forget⟩ := ⟨.inl rfl, rb, .inr rfl, hB2, hR2⟩
    have t := hTB.cell
    have tl := hTB.lt
    have z := (hC.blk0 HB0.out).cell
    have zz := (hC.blk0 HB0.out).frozen
    have zl := (hC.blk0 HB0.out).lt
    have hne1 : ¬ b0 = pb := by have := HLT.out; omega
    have hne2 : ¬ tb = pb := by have h1 := HLT.out; have h2 := HC.out.size; have h3 := HZ.out; omega
    have HSA := store_all hZ2 [.bool lay, .int .i64 right, .slice vp ls.length vc] rfl
    have hlow : ∀ k, k = pb ∨ k = rb → k ≠ b0 := fun k e => by
      have h1 := HS.out.2.2.2.2 _ HS.out.1
      have h2 := HS.out.2.2.2.2 _ HS.out.2.1
      have h3 := HZ.out
      rcases e with e | e <;> omega
    have hlowL : ∀ k, SL k → k ≠ b0 := fun k e => by
      have h1 := HS.out.2.2.2.2 _ (HS.out.2.2.2.1 k e).1
      have h3 := HZ.out
      omega
    have HF : Hid (Own (((w1.setCell ⟨pb, 13, none⟩ (.bool false)).setCell ⟨pb, 12, none⟩ (.slice none 0 0)).setCells b0 0 [.bool lay, .int .i64 right, .slice vp ls.length vc]) SL 121 8 (.slice vp ls.length vc) ls.length (ltsC number ls) ∧ PgN (((w1.setCell ⟨pb, 13, none⟩ (.bool false)).setCell ⟨pb, 12, none⟩ (.slice none 0 0)).setCells b0 0 [.bool lay, .int .i64 right, .slice vp ls.length vc]) (fun k => k = pb ∨ k = rb) pb me number ⟨right, owner, prob, set, want, wait, held, forget⟩ ∧ Chg (fun k => k = pb) w (((w1.setCell ⟨pb, 13, none⟩ (.bool false)).setCell ⟨pb, 12, none⟩ (.slice none 0 0)).setCells b0 0 [.bool lay, .int .i64 right, .slice vp ls.length vc])) := Lib.hid ⟨hO2.chg HSA.2 fun k hk e => hlowL k hk e, hP2.chg HSA.2 fun k hk e => hlow k hk e, chg_new24 (((HC.out.mono (S' := fun k => k = pb) fun _ _ e => e.elim).trans (hC.mono (S' := fun k => k = pb) fun _ _ e => e.elim) fun _ _ e => e).trans c1 fun _ _ e => e) HSA.2 (by have := HZ.out; omega)⟩
    obtain ⟨w5, hw5⟩ : ∃ x, ((w1.setCell ⟨pb, 13, none⟩ (.bool false)).setCell ⟨pb, 12, none⟩ (.slice none 0 0)).setCells b0 0 [.bool lay, .int .i64 right, .slice vp ls.length vc] = x := ⟨_, rfl⟩
    rw [hw5] at HF HSA
    replace hw5 : ((((w1.setCell ⟨pb, 13, none⟩ (.bool false)).setCell ⟨pb, 12, none⟩ (.slice none 0 0)).setCell ⟨b0, 0, none⟩ (.bool lay)).setCell ⟨b0, 1, none⟩ (.int .i64 right)).setCell ⟨b0, 2, none⟩ (.slice vp ls.length vc) = w5 := hw5
    have q := HSA.1.cell
    have ql := HSA.1.lt
    clear hBw hRw hOw c1 hB2 hR2 hO2 hT2 hZ2 hP2 hTB HSA hlo hC cc g gl hlow hlowL
    go_wp2_with fail
    exact bodyPost_ret (v := .agg #[.bool lay, .int .i64 right, .slice vp ls.length vc]) (by simp [results, Tryz.results49, go_sem, q]) rfl ⟨_, rfl, vp, vc, SL, fun k => k = pb ∨ k = rb, rfl, fun k hk => ⟨(HS.out.2.2.2.1 k hk).1, fun e => e.elim (HS.out.2.2.2.1 k hk).2.1 (HS.out.2.2.2.1 k hk).2.2⟩, fun k e => e.elim (fun e => e ▸ HS.out.1) fun e => e ▸ HS.out.2.1, HF.out.1, HF.out.2.1, HF.out.2.2⟩
end Go.Proofs.YtdjaeoeejcmhdaaGreatDoor
