/- Pages that talk: sets of nodes below five, gone over. No condition. Pages that talk: a set of nodes below five, as a list. No condition. Pages that talk: copies are told to be forgotten. No condition. Pages that talk: the owner wants to write while others have copies. No condition. Pages that talk: an access, whatever the page is (while it is not busy). No condition. -/
import Derived.Test.YtdjaeoeejcmhdaaGreatDoorHl
set_option linter.unusedVariables false
set_option linter.unusedSimpArgs false
namespace Go.Proofs.YtdjaeoeejcmhdaaGreatDoor
open Go.RowKit Go.RR
/-- What is looked up in the library's table, for sets below 32. -/
structure Tz24 (w : World) : Prop where
  c0 : w.cell? ⟨0, 0, none⟩ = some (.int .u8 0)
  c1 : w.cell? ⟨0, 1, none⟩ = some (.int .u8 1)
  c2 : w.cell? ⟨0, 3, none⟩ = some (.int .u8 2)
  c3 : w.cell? ⟨0, 7, none⟩ = some (.int .u8 3)
  c4 : w.cell? ⟨0, 14, none⟩ = some (.int .u8 4)
theorem Tz24.chg0 {w w' : World} (h : Tz24 w) (c : Chg NoB w w') : Tz24 w' := ⟨c.cell h.c0 id, c.cell h.c1 id, c.cell h.c2 id, c.cell h.c3 id, c.cell h.c4 id⟩
/-- The least of a set below 32. -/
def least24 (s : Nat) : Nat := if s.testBit 0 then 0 else if s.testBit 1 then 1 else if s.testBit 2 then 2 else if s.testBit 3 then 3 else 4
theorem least_bits : ∀ s < 32, s ≠ 0 → least24 s < 5 ∧ bits BinOp.and IntKind.u16 (s : Int) (IntKind.u16.wrap (-(s : Int))) = ((2 ^ least24 s : Nat) : Int) := by decide +kernel
set_option maxHeartbeats 4000000 in
set_option maxRecDepth 100000 in
theorem tz16_w (w : World) (L : Tz24 w) (s : Nat) (h : s < 32) (h0 : s ≠ 0) : Calls Tryz.prog 167 #[.int .u16 s] w (RetW (.int .i64 (least24 s : Nat)) fun w' => w' = w) := by
  obtain ⟨hl, e⟩ := least_bits s h h0
  have t0 : ((s : Int) == 0) = false := by simpa using h0
  have t1 : decide (s = 0) = false := decide_eq_false h0
  obtain ⟨x0, x1, x3, x7, x14⟩ := L
  obtain ⟨t, ht⟩ : ∃ t, least24 s = t := ⟨_, rfl⟩
  rw [ht] at e hl ⊢
  clear h h0 ht
  have hc : t = 0 ∨ t = 1 ∨ t = 2 ∨ t = 3 ∨ t = 4 := by omega
  clear hl
  rcases hc with rfl | rfl | rfl | rfl | rfl
  all_goals
    go_enter Tryz.func167, Tryz.ntmps167
    go_wp2_with fail
    go_ret
    exact ⟨rfl, rfl⟩
/-- The next one of a set, from a number on. -/
def nnext24 (s n : Nat) : Int := if s / 2 ^ n * 2 ^ n = 0 then (-1 : Int) else (least24 (s / 2 ^ n * 2 ^ n) : Nat)
set_option maxHeartbeats 4000000 in
set_option maxRecDepth 100000 in
theorem next_w (w : World) (L : Tz24 w) (s n : Nat) (h : s < 32) (hn : n ≤ 5) : Calls Tryz.prog 133 #[.int .u16 s, .int .i64 n] w (RetW (.int .i64 (nnext24 s n)) fun w' => w' = w) := by
  obtain ⟨x, hx⟩ : ∃ x, s / 2 ^ n * 2 ^ n = x := ⟨_, rfl⟩
  have hx32 : x < 32 := by rw [← hx]; exact Nat.lt_of_le_of_lt (Nat.div_mul_le_self _ _) h
  have e : nnext24 s n = if x = 0 then (-1 : Int) else ((least24 x : Nat) : Int) := by unfold nnext24; rw [hx]
  rw [e]
  have HT := Lib.hid fun (h0 : x ≠ 0) => tz16_w w L x hx32 h0
  have t0 : decide (16 ≤ n) = false := decide_eq_false (by omega)
  have t1 : decide ((16 : Int) ≤ (n : Int)) = false := decide_eq_false (by omega)
  have t2 : decide ((n : Int) < 16) = true := decide_eq_true (by omega)
  have ex : IntKind.u16.wrap ((s : Int) / 2 ^ n * 2 ^ n) = (x : Int) := by
    rw [show ((s : Int) / 2 ^ n * 2 ^ n) = ((x : Nat) : Int) by rw [← hx]; simp]
    have := IntKind.wrap_u16 (x : Int)
    omega
  clear e L
  by_cases h0 : x = 0
  · rw [if_pos h0]
    have ex : IntKind.u16.wrap ((s : Int) / 2 ^ n * 2 ^ n) = 0 := by rw [ex, h0]; rfl
    clear hx
    go_enter Tryz.func133, Tryz.ntmps133
    go_wp2_with fail
    go_ret
    exact ⟨rfl, rfl⟩
  · rw [if_neg h0]
    have HT2 := Lib.hid (HT.out h0)
    have t3 : ((x : Int) == 0) = false := by simpa using h0
    have t4 : decide (x = 0) = false := decide_eq_false h0
    clear hx HT
    go_enter Tryz.func133, Tryz.ntmps133
    go_wp2_with fail
    all_goals first | (exact absurd (by assumption) h0) | skip
    with_reducible refine HT2.out.mono ?_
    rintro e w1 ⟨rfl, hw1⟩
    subst hw1
    go_wp2_with fail
    go_ret
    exact ⟨rfl, rfl⟩
end Go.Proofs.YtdjaeoeejcmhdaaGreatDoor
set_option linter.unusedVariables false
set_option linter.unusedSimpArgs false
namespace Go.Proofs.YtdjaeoeejcmhdaaGreatDoor
open Go.RowKit Go.RR
def upto24 (s i : Nat) : List Int := ((List.range i).filter fun j : Nat => s.testBit j).map fun j : Nat => ((j : Nat) : Int)
theorem up_end : ∀ s < 32, ∀ i < 6, nnext24 s i = -1 → upto24 s i = nlistF s := by decide +kernel
theorem up_on : ∀ s < 32, ∀ i < 6, nnext24 s i ≠ -1 → least24 (s / 2 ^ i * 2 ^ i) < 5 ∧ i ≤ least24 (s / 2 ^ i * 2 ^ i) ∧ nnext24 s i = (least24 (s / 2 ^ i * 2 ^ i) : Nat) ∧ upto24 s i ++ [((least24 (s / 2 ^ i * 2 ^ i) : Nat) : Int)] = upto24 s (least24 (s / 2 ^ i * 2 ^ i) + 1) := by decide +kernel
theorem up_len : ∀ s < 32, ∀ i < 6, (upto24 s i).length < 6 := by decide +kernel
theorem INTi24 : (Tryz.prog.info? 3).map (fun i => (i.zero, i.size, i.bytes)) = some (some (.int .i64 0), 1, 8) := by kernel_rfl
def slot24 : Value → Int
  | .int _ q => q
  | _ => 0
def meas24 (q : Int) : Nat := if q < 0 then 0 else 6 - q.toNat
theorem meas_lt {s i m : Nat} (hs : s < 32) (hi : i < 6) (h : nnext24 s i = (m : Nat)) (hm : m < 5) : meas24 (nnext24 s (m + 1)) < meas24 (nnext24 s i) := by
  rw [h]
  have e : meas24 ((m : Nat) : Int) = 6 - m := by unfold meas24; rw [if_neg (by omega)]; simp
  rw [e]
  by_cases h1 : nnext24 s (m + 1) = -1
  · rw [h1]; show 0 < _; omega
  · obtain ⟨h2, h3, h4, -⟩ := up_on s hs (m + 1) (by omega) h1
    rw [h4]
    unfold meas24
    rw [if_neg (by omega)]
    simp
    omega
/-- At a jump: what is listed. -/
structure ListJ (w w' : World) (s i : Nat) (v : Value) : Prop where
  lt : i < 6
  own : Own w' (fun k => w.heap.size ≤ k) 3 1 v (upto24 s i).length ((upto24 s i).map (Value.int .i64))
  chg : Chg NoB w w'
set_option maxHeartbeats 4000000 in
set_option maxRecDepth 100000 in
theorem list_w (w : World) (L : Tz24 w) (s : Nat) (hs : s < 32) : Calls Tryz.prog 94 #[.int .u16 s] w (RetV fun r w' => Own w' (fun k => w.heap.size ≤ k) 3 1 r (nlistF s).length ((nlistF s).map (Value.int .i64)) ∧ Chg NoB w w') := by
  have HL := Lib.hid L
  have hn := next_w w L s 0 hs (by omega)
  rw [show ((0 : Nat) : Int) = 0 from rfl] at hn
  have HN0 := Lib.hid hn
  clear L hn
  go_enter Tryz.func94, Tryz.ntmps94
  go_wp2_with fail
  refine wp_scope_jumps 0 (fun a' w' => ∃ (i : Nat) (v u1 u2 u5 u6 u7 u8 u9 u10 u11 u12 u13 u14 u15 u16 u17 : Value), a' = { tmps := #[.int .u16 s, u1, u2, v, .int .i64 (nnext24 s i), u5, u6, u7, u8, u9, u10, u11, u12, u13, u14, u15, u16, u17], defers := [] } ∧ ListJ w w' s i v) (fun a' _ => meas24 (slot24 (a'.tmps.getD 4 undef))) rfl ?_ ?_
  · go_wp2_with fail
    with_reducible refine HN0.out.mono ?_
    rintro e wr ⟨rfl, hwr⟩
    have hC : Chg NoB w wr := by rw [hwr]; exact Chg.refl NoB w
    have hO : Own wr (fun k => w.heap.size ≤ k) 3 1 (.slice none 0 0) (upto24 s 0).length ((upto24 s 0).map (Value.int .i64)) := Own.nil _ _ _ _
    clear hwr
    go_wp2_with fail
    go_step3
    by_cases hq : nnext24 s 0 = -1
    · have he := up_end s hs 0 (by omega) hq
      rw [hq]
      rw [he] at hO
      have HO := Lib.hid hO
      have HC := Lib.hid hC
      obtain ⟨pv, cv, hv⟩ := hO.form
      clear hO hC
      first | subst hv | clear hv
      go_wp2_with fail
      go_ret
      exact ⟨_, rfl, HO.out, HC.out⟩
    · obtain ⟨m, hm⟩ : ∃ m, least24 (s / 2 ^ 0 * 2 ^ 0) = m := ⟨_, rfl⟩
      have hu := up_on s hs 0 (by omega) hq
      rw [hm] at hu
      have HU := Lib.hid hu
      have hm5 := hu.1
      rw [hu.2.2.1]
      have hln := up_len s hs 0 (by omega)
      obtain ⟨pv, cv, hv⟩ := hO.form
      generalize upto24 s 0 = F at *
      have D3 := (Chg.refl NoB wr).alloc (.cells #[.int .i64 (m : Int)] 3)
      have oA := hO.chg0 D3
      have hC3 := hC.step D3
      have sB := (Sl.fresh (size := 1) wr [.int .i64 (m : Int)] 3 1 rfl)
      have one1 : ∀ u ∈ [Value.int .i64 (m : Int)], u.oneCell' = true := by simp [Value.oneCell']
      have b1 : F.length + 1 ≤ maxLen := by unfold maxLen; omega
      have b2 : (F.length + 1) * 8 ≤ 140737488355328 := by omega
      have HOB := Lib.hid oA.ownBlock
      have HC3 := Lib.hid hC3
      obtain ⟨i0, hi0, hz0, hz1, hz2⟩ := info_parts INTi24
      have m0 : (0 : Int) ≤ m := by omega
      have m1 : decide ((m : Int) < 0) = false := decide_eq_false (by omega)
      clear hC hC3 hO D3 hu hq hm
      first | subst hv | clear hv
      go_wp2_with (at_builtin; go_must (refine wpList_app rfl _ _ 46 rfl i0 _ 8 Tryz.underlying46 hi0 hz0 hz1 hz2 rfl rfl oA _ 1 _ rfl sB one1 b1 b2 ?_))
      intro v4 w4 o4 g4 _
      have C4 := HC3.out.grown g4 (fun q hq => .inr (HOB.out q hq).1)
      have O4 : Own w4 (fun q => w.heap.size ≤ q) 3 1 v4 (upto24 s (m + 1)).length ((upto24 s (m + 1)).map (Value.int .i64)) := by
        rw [← HU.out.2.2.2, List.map_append, List.length_append]
        exact o4.mono fun q hq => hq.elim (fun h => (HOB.out q h).1) (fun h => by have := HC3.out.size; simp at h this; omega)
      have HO4 := Lib.hid O4
      have HC4 := Lib.hid C4
      have HN := Lib.hid (next_w w4 (HL.out.chg0 C4) s (m + 1) hs (by omega))
      rw [show ((m + 1 : Nat) : Int) = (m : Int) + 1 by omega] at HN
      clear o4 g4 oA sB one1 b1 b2 hi0 hz0 hz1 hz2 O4 C4
      go_wp2_with fail
      with_reducible refine HN.out.mono ?_
      rintro e w5 ⟨rfl, hw5⟩
      subst hw5
      go_wp2_with fail
      go_step3
      exact ⟨rfl, m + 1, v4, _, _, _, _, _, _, _, _, _, _, _, _, _, _, _, rfl, ⟨by omega, HO4.out, HC4.out⟩⟩
  · rintro a' wr ⟨i, v, u1, u2, u5, u6, u7, u8, u9, u10, u11, u12, u13, u14, u15, u16, u17, rfl, hj⟩
    obtain ⟨hi, hO, hC⟩ := hj
    have HI := Lib.hid hi
    by_cases hq : nnext24 s i = -1
    · have he := up_end s hs i hi hq
      rw [hq]
      rw [he] at hO
      have HO := Lib.hid hO
      have HC := Lib.hid hC
      obtain ⟨pv, cv, hv⟩ := hO.form
      clear hO hC
      first | subst hv | clear hv
      go_wp2_with fail
      go_ret
      exact ⟨_, rfl, HO.out, HC.out⟩
    · obtain ⟨m, hm⟩ : ∃ m, least24 (s / 2 ^ i * 2 ^ i) = m := ⟨_, rfl⟩
      have hu := up_on s hs i hi hq
      rw [hm] at hu
      have HU := Lib.hid hu
      have hm5 := hu.1
      rw [hu.2.2.1]
      have hln := up_len s hs i hi
      obtain ⟨pv, cv, hv⟩ := hO.form
      generalize upto24 s i = F at *
      have D3 := (Chg.refl NoB wr).alloc (.cells #[.int .i64 (m : Int)] 3)
      have oA := hO.chg0 D3
      have hC3 := hC.step D3
      have sB := (Sl.fresh (size := 1) wr [.int .i64 (m : Int)] 3 1 rfl)
      have one1 : ∀ u ∈ [Value.int .i64 (m : Int)], u.oneCell' = true := by simp [Value.oneCell']
      have b1 : F.length + 1 ≤ maxLen := by unfold maxLen; omega
      have b2 : (F.length + 1) * 8 ≤ 140737488355328 := by omega
      have HOB := Lib.hid oA.ownBlock
      have HC3 := Lib.hid hC3
      obtain ⟨i0, hi0, hz0, hz1, hz2⟩ := info_parts INTi24
      have m0 : (0 : Int) ≤ m := by omega
      have m1 : decide ((m : Int) < 0) = false := decide_eq_false (by omega)
      clear hC hC3 hO D3 hu hq hm
      first | subst hv | clear hv
      go_wp2_with (at_builtin; go_must (refine wpList_app rfl _ _ 46 rfl i0 _ 8 Tryz.underlying46 hi0 hz0 hz1 hz2 rfl rfl oA _ 1 _ rfl sB one1 b1 b2 ?_))
      intro v4 w4 o4 g4 _
      have C4 := HC3.out.grown g4 (fun q hq => .inr (HOB.out q hq).1)
      have O4 : Own w4 (fun q => w.heap.size ≤ q) 3 1 v4 (upto24 s (m + 1)).length ((upto24 s (m + 1)).map (Value.int .i64)) := by
        rw [← HU.out.2.2.2, List.map_append, List.length_append]
        exact o4.mono fun q hq => hq.elim (fun h => (HOB.out q h).1) (fun h => by have := HC3.out.size; simp at h this; omega)
      have HO4 := Lib.hid O4
      have HC4 := Lib.hid C4
      have HN := Lib.hid (next_w w4 (HL.out.chg0 C4) s (m + 1) hs (by omega))
      rw [show ((m + 1 : Nat) : Int) = (m : Int) + 1 by omega] at HN
      clear o4 g4 oA sB one1 b1 b2 hi0 hz0 hz1 hz2 O4 C4
      go_wp2_with fail
      with_reducible refine HN.out.mono ?_
      rintro e w5 ⟨rfl, hw5⟩
      subst hw5
      go_wp2_with fail
      go_step3
      exact ⟨rfl, ⟨m + 1, v4, _, _, _, _, _, _, _, _, _, _, _, _, _, _, _, rfl, ⟨by omega, HO4.out, HC4.out⟩⟩, (by have h := meas_lt hs HI.out HU.out.2.2.1 hm5; rw [HU.out.2.2.1] at h; exact h)⟩
end Go.Proofs.YtdjaeoeejcmhdaaGreatDoor
set_option linter.unusedVariables false
set_option linter.unusedSimpArgs false
namespace Go.Proofs.YtdjaeoeejcmhdaaGreatDoor
open Go.RowKit Go.RR
theorem Tz24.chg {S : Nat → Prop} {w w' : World} (h : Tz24 w) (c : Chg S w w') (hn : ¬ S 0) : Tz24 w' := ⟨c.cell h.c0 hn, c.cell h.c1 hn, c.cell h.c2 hn, c.cell h.c3 hn, c.cell h.c4 hn⟩
theorem nlist_len : ∀ s < 32, (nlistF s).length ≤ 5 := by decide +kernel
set_option maxHeartbeats 4000000 in
set_option maxRecDepth 100000 in
/-- The owner that wants to write tells all that have a copy. -/
theorem gather_list {w : World} {S : Nat → Prop} {pb : Nat} {me number : Int} {st : PgS} {lay : Bool} {ls : List Lt} (h : PgT w S pb me number st lay ls) (hb : ∀ k, S k → k < w.heap.size) (L : Tz24 w) (hd : pb ≠ 0) (hl : ls.length ≤ 900) (hs : st.set ≠ 0) (hs2 : st.set < 32) :
    Calls Tryz.prog 50 #[.pointer (some ⟨pb, 0, none⟩)] w (RetW (.tuple #[]) (ActQ w S pb me number { st with want := 2, wait := st.set } lay (ls ++ (nlistF st.set).map fun n => ⟨n, 5, me, 0, 0, false⟩))) := by
  obtain ⟨right, owner, prob, set, want, wait, held, forget⟩ := st
  have hs : set ≠ 0 := hs
  have hs2 : set < 32 := hs2
  have c1 := ((Chg.refl (fun k => k = pb) w).setCell (a := ⟨pb, 6, none⟩) (.inl rfl) (.int .i64 2)).setCell (a := ⟨pb, 7, none⟩) (.inl rfl) (.int .u16 set)
  have h1 := h.upd (st' := ⟨right, owner, prob, set, 2, set, held, forget⟩) (lay' := lay) (fun rb v hB => (hB.set 6 (.int .i64 2)).set 7 (.int .u16 set)) c1
  have HLs := Lib.hid (list_w _ (L.chg c1 fun e => hd e.symm) set hs2)
  have HH1 := Lib.hid h1
  have HC1 := Lib.hid (And.intro h.s c1)
  have HB := Lib.hid hb
  have HLN := Lib.hid (And.intro hl (nlist_len set hs2))
  have t0 : ((set : Int) == 0) = false := by simpa using hs
  have t1 : decide (set = 0) = false := decide_eq_false hs
  obtain ⟨rb, v, SL, -, -, hB, -, -⟩ := h.ex
  have hB : Blk w pb #[.int .i64 me, .int .i64 number, .int .i64 right, .bool owner, .int .i64 prob, .int .u16 set, .int .i64 want, .int .u16 wait, .bool held, .int .i64 forget, .int .i64 0, .pointer (some ⟨rb, 0, none⟩), v, .bool lay] 128 := hB
  have f := hB.cell
  have fz := hB.frozen
  have fl := hB.lt
  clear hB h c1 h1 hb hl L hd
  go_enter Tryz.func50, Tryz.ntmps50
  go_upto_region 3 with fail
  clear f fz fl
  generalize hw1 : (w.setCell ⟨pb, 6, none⟩ (.int .i64 2)).setCell ⟨pb, 7, none⟩ (.int .u16 set) = w1 at *
  obtain ⟨rb1, v1, SL1, -, -, hB1, -, -⟩ := HH1.out.ex
  have f5 := hB1.cell' (i := 5) (v := .int .u16 set) rfl
  have fl := hB1.lt
  clear hB1 hw1
  go_wp2_with fail
  with_reducible refine HLs.out.mono ?_
  rintro e w2 ⟨vv, rfl, hO, hC2⟩
  obtain ⟨p, cap, rfl, hcap, hsh⟩ := hO.sl.shape
  have HSh := Lib.hid hsh
  have HP2 := Lib.hid ((HH1.out.chg0 hC2).mono (S' := Grow S w2) fun k e => .inl e)
  have HC2 := Lib.hid hC2
  obtain ⟨F, hF⟩ : ∃ F, nlistF set = F := ⟨_, rfl⟩
  have HFF := Lib.hid hF
  simp only [hF] at HSh HLN hcap ⊢
  have hFl := HLN.out.2
  clear hO hsh hC2 hF hs hs2 f5 fl
  go_wp2_with fail
  go_loopg [32] F.length (fun gk ix wr => ∃ j : Nat, j + gk = F.length ∧ ix = .int .i64 j ∧ PgT wr (Grow S w2) pb me number ⟨right, owner, prob, set, 2, set, held, forget⟩ lay (ls ++ (F.take j).map fun n => ⟨n, 5, me, 0, 0, false⟩) ∧ Chg S w2 wr)
  case atStart => exact ⟨0, by omega, rfl, by simpa using HP2.out, Chg.refl _ _⟩
  case round =>
    obtain ⟨j, hj, rfl, hP, hC⟩ := hrel
    rename World => wr
    have HJ := Lib.hid hj
    have HCr := Lib.hid hC
    have HPr := Lib.hid hP
    have hjl : j ≤ F.length := by omega
    clear hj
    by_cases hlt : j < F.length
    · obtain ⟨q, hq⟩ : ∃ q, F[j]? = some q := ⟨F[j], by simp [hlt]⟩
      obtain ⟨g, off, rfl, hgS, hgz, hcell⟩ := HSh.out (by omega)
      have x0 := hC.cell (hcell j (.int .i64 q) (by simp [hq])) (fun e => by have e : S g := e; have h1 := HB.out g e; have h2 := HC1.out.2.size; have hgS : w1.heap.size ≤ g := hgS; omega)
      have htk : (F.take (j + 1)).map (fun n : Int => (⟨n, 5, me, 0, 0, false⟩ : Lt)) = (F.take j).map (fun n : Int => (⟨n, 5, me, 0, 0, false⟩ : Lt)) ++ [⟨q, 5, me, 0, 0, false⟩] := by rw [List.take_add_one, hq]; simp
      have HTK := Lib.hid htk
      have HT := Lib.hid (tell_w hP.bd (fun k hk => hk.2) (by rw [List.length_append, List.length_map, List.length_take]; have := HLN.out.1; omega) q 5)
      have k0 : (0 : Int) ≤ j := by omega
      have k1 : (j : Int) < F.length := by omega
      clear hq htk hP hC hcell
      go_wp2_with fail
      with_reducible refine HT.out.mono ?_
      rintro e w5 ⟨rfl, hX, hCX⟩
      have hX2 := hX.mono (S' := Grow S w2) fun k e => by
        have hz := HCr.out.size
        rcases e with e | e
        · exact e.1
        · have e : wr.heap.size ≤ k := e
          exact .inr (Nat.le_trans hz e)
      rw [List.append_assoc, ← HTK.out] at hX2
      have HX2 := Lib.hid hX2
      have HC5 := Lib.hid (HCr.out.trans hCX fun b hb e => e.1.elim id fun e => absurd e (Nat.not_le_of_lt hb))
      clear hX hCX hX2
      go_wp2_with fail
      go_roundg (F.length - (j + 1))
      case measure => have := HJ.out; omega
      case rel => exact ⟨j + 1, by have := HJ.out; omega, by go_num, HX2.out, HC5.out⟩
    · obtain rfl : j = F.length := by omega
      have hP2 := HPr.out
      rw [List.take_length] at hP2
      rw [← HFF.out] at hP2
      have HP3 := Lib.hid hP2
      clear hP hC hP2
      go_wp2_with fail
      refine bodyPost_end (results_none rfl _ _ _) rfl ?_
      exact ⟨rfl, ActQ.of HC1.out.1 HC1.out.2 (ActQ.of0 HC2.out ⟨HP3.out, HCr.out⟩)⟩
end Go.Proofs.YtdjaeoeejcmhdaaGreatDoor
set_option linter.unusedVariables false
set_option linter.unusedSimpArgs false
namespace Go.Proofs.YtdjaeoeejcmhdaaGreatDoor
open Go.RowKit Go.RR
set_option maxHeartbeats 4000000 in
set_option maxRecDepth 100000 in
theorem want_gather {w : World} {S : Nat → Prop} {pb : Nat} {me number : Int} {st st' : PgS} {ls' : List Lt} (h : PgT w S pb me number st false []) (hb : ∀ k, S k → k < w.heap.size) (hbz : st.busy = false) (ho : st.owner = true) (hlt : st.right < 2)
    (HSub : ∀ w', Chg NoB w w' → Calls Tryz.prog 50 #[.pointer (some ⟨pb, 0, none⟩)] w' (RetW (.tuple #[]) (ActQ w' S pb me number st' false ls'))) :
    Calls Tryz.prog 21 #[.pointer (some ⟨pb, 0, none⟩), .int .i64 2] w (RetV (TellQ w S pb me number st' false ls')) := by
  obtain ⟨b1, b2⟩ := busy_parts hbz
  have c0 : Chg NoB w (w.alloc (.cells #[.bool false, .int .i64 0, .slice none 0 0] 73)) := (Chg.refl NoB w).alloc _
  have hR2 := Blk.new w #[.bool false, .int .i64 0, .slice none 0 0] 73
  have h0 := h.chg0 c0
  have HBz := Lib.hid (busy_w h0 b1 b2)
  have HGa := Lib.hid (HSub _ c0)
  have HB := Lib.hid hb
  have HS := Lib.hid h.s
  have HPL := Lib.hid (hb pb h.s)
  have HZ := Lib.hid c0.size
  have HCW := Lib.hid (c0.mono (S' := S) fun _ _ e => e.elim)
  have HR := Lib.hid hR2
  obtain ⟨right, owner, prob, set, want, wait, held, forget⟩ := st
  obtain rfl : owner = true := ho
  have hlt : right < 2 := hlt
  have t1 : decide (2 ≤ right) = false := decide_eq_false (by omega)
  have t1' : decide (right < 2) = true := decide_eq_true hlt
  obtain ⟨rb, v, SL0, -, -, hB, -, -⟩ := h0.ex
  have f2 := hB.cell' (i := 2) (v := .int .i64 right) rfl
  have f3 := hB.cell' (i := 3) (v := .bool true) rfl
  have f5 := hB.cell' (i := 5) (v := .int .u16 set) rfl
  have fl := hB.lt
  clear h h0 c0 hb hB b1 b2 hbz hR2 hlt HSub
  go_enter Tryz.func21, Tryz.ntmps21
  go_wp2_with fail
  with_reducible refine HBz.out.mono ?_
  rintro e w1 ⟨rfl, hw1⟩
  subst hw1
  go_wp2_with fail
  generalize w.alloc (.cells #[.bool false, .int .i64 0, .slice none 0 0] 73) = w1 at *
  with_reducible refine HGa.out.mono ?_
  rintro e w2 ⟨rfl, hX, hCX⟩
  have hP := hX.bd
  have HT := Lib.hid (turn_w hP (fun k hk => hk.2))
  have HCX := Lib.hid hCX
  have HR2 := Lib.hid (hCX.blk HR.out fun e => by have h3 := HB.out _ e; omega)
  have HZZ := Lib.hid HR.out.lt
  clear hX hCX hP f2 f3 f5 fl
  go_wp2_with fail
  with_reducible refine HT.out.mono ?_
  rintro e w3 ⟨r, rfl, p, c, SL, S2, rfl, hSL, hS2, hO, hPg, c3⟩
  have hR3 := c3.blk HR2.out (by have := HPL.out; omega)
  have HSA := store_all hR3 [.bool false, .int .i64 st'.right, .slice p ls'.length c] rfl
  have hbd : ∀ k, S k ∨ w1.heap.size ≤ k → k ≠ w.heap.size := fun k e => by
    have h5 := HZZ.out
    rcases e with e | e
    · have h3 := HB.out _ e; omega
    · omega
  have HF : Hid (Own (w3.setCells w.heap.size 0 [.bool false, .int .i64 st'.right, .slice p ls'.length c]) SL 121 8 (.slice p ls'.length c) ls'.length (ltsC number ls') ∧ PgN (w3.setCells w.heap.size 0 [.bool false, .int .i64 st'.right, .slice p ls'.length c]) S2 pb me number st' ∧ Chg S w (w3.setCells w.heap.size 0 [.bool false, .int .i64 st'.right, .slice p ls'.length c])) := Lib.hid ⟨hO.chg HSA.2 fun k hk e => hbd k (hSL k hk).1.1 e, hPg.chg HSA.2 fun k hk e => hbd k (hS2 k hk).1 e, chg_new24 ((HCW.out.trans HCX.out fun _ _ e => e).trans (c3.mono (S' := S) fun k _ e => by have e : k = pb := e; rw [e]; exact HS.out) fun _ _ e => e) HSA.2 (Nat.le_refl _)⟩
  have HG := Lib.hid (And.intro (show ∀ k, SL k → (S k ∨ w.heap.size ≤ k) ∧ ¬ S2 k from fun k hk => ⟨(hSL k hk).1.1.imp id fun e => Nat.le_trans HZ.out e, (hSL k hk).2⟩) (show ∀ k, S2 k → S k ∨ w.heap.size ≤ k from fun k hk => (hS2 k hk).1.imp id fun e => Nat.le_trans HZ.out e))
  have z := hR3.cell
  have zz := hR3.frozen
  have zl := hR3.lt
  obtain ⟨w5, hw5⟩ : ∃ x, w3.setCells w.heap.size 0 [.bool false, .int .i64 st'.right, .slice p ls'.length c] = x := ⟨_, rfl⟩
  rw [hw5] at HF HSA
  replace hw5 : ((w3.setCell ⟨w.heap.size, 0, none⟩ (.bool false)).setCell ⟨w.heap.size, 1, none⟩ (.int .i64 st'.right)).setCell ⟨w.heap.size, 2, none⟩ (.slice p ls'.length c) = w5 := hw5
  have q := HSA.1.cell
  have ql := HSA.1.lt
  clear hR3 HSA hbd hSL hS2 hO hPg c3
  go_wp2_with fail
  exact bodyPost_ret (v := .agg #[.bool false, .int .i64 st'.right, .slice p ls'.length c]) (by simp [results, Tryz.results21, go_sem, q]) rfl ⟨_, rfl, p, c, SL, S2, rfl, HG.out.1, HG.out.2, HF.out.1, HF.out.2.1, HF.out.2.2⟩
/-- The owner wants to write, others have copies. -/
theorem want_list {w : World} {S : Nat → Prop} {pb : Nat} {me number : Int} {st : PgS} (h : PgT w S pb me number st false []) (hb : ∀ k, S k → k < w.heap.size) (hbz : st.busy = false) (ho : st.owner = true) (hlt : st.right < 2) (L : Tz24 w) (hd : pb ≠ 0) (hs : st.set ≠ 0) (hs2 : st.set < 32) :
    Calls Tryz.prog 21 #[.pointer (some ⟨pb, 0, none⟩), .int .i64 2] w (RetV (TellQ w S pb me number { st with want := 2, wait := st.set } false ((nlistF st.set).map fun n => ⟨n, 5, me, 0, 0, false⟩))) :=
  want_gather h hb hbz ho hlt fun w' c => by
    have := gather_list (h.chg0 c) (fun k hk => Nat.lt_of_lt_of_le (hb k hk) c.size) (L.chg0 c) hd (by simp) hs hs2
    simpa using this
/-- A page is granted: its owner gathers, none or some have copies. -/
theorem granted_zero {w : World} {S : Nat → Prop} {pb m : Nat} {number : Int} {st : PgS} {lay : Bool} {ls : List Lt} (h : PgT w S pb m number st lay ls) (hb : ∀ k, S k → k < w.heap.size) (hm : m < 16) (hw : st.want = 2) (ho : st.owner = false) (kind pg node hops : Int) (sm : Nat) (hsm : sm < 65536) (dp : Option Addr) (dn dc : Nat) (hz : ndropF sm m = 0) :
    Calls Tryz.prog 76 #[.pointer (some ⟨pb, 0, none⟩), .agg #[.int .i64 kind, .int .i64 pg, .int .i64 node, .int .i64 hops, .int .u16 sm, .slice dp dn dc]] w (RetW (.tuple #[]) (ActQ w S pb m number (holdF { st with owner := true, prob := m, set := ndropF sm m } 2) true ls)) :=
  granted_w h hb hm hw ho kind pg node hops sm hsm dp dn dc fun w' hz' hP => (gather_zero hP hz).mono fun e w2 hh => ⟨hh.1, ActQ.one hP.s hh.2.1 hh.2.2⟩
theorem granted_list {w : World} {S : Nat → Prop} {pb m : Nat} {number : Int} {st : PgS} {lay : Bool} {ls : List Lt} (h : PgT w S pb m number st lay ls) (hb : ∀ k, S k → k < w.heap.size) (hm : m < 16) (hw : st.want = 2) (ho : st.owner = false) (kind pg node hops : Int) (sm : Nat) (hsm : sm < 65536) (dp : Option Addr) (dn dc : Nat) (L : Tz24 w) (hd : ¬ S 0) (hl : ls.length ≤ 900) (hz : ndropF sm m ≠ 0) (hz2 : ndropF sm m < 32) :
    Calls Tryz.prog 76 #[.pointer (some ⟨pb, 0, none⟩), .agg #[.int .i64 kind, .int .i64 pg, .int .i64 node, .int .i64 hops, .int .u16 sm, .slice dp dn dc]] w (RetW (.tuple #[]) (ActQ w S pb m number { st with owner := true, prob := m, set := ndropF sm m, want := 2, wait := ndropF sm m } true (ls ++ (nlistF (ndropF sm m)).map fun n => ⟨n, 5, m, 0, 0, false⟩))) :=
  granted_w h hb hm hw ho kind pg node hops sm hsm dp dn dc fun w' c hP => gather_list hP (fun k hk => Nat.lt_of_lt_of_le (hb k hk) c.size) (L.chg c hd) (fun e => hd (e ▸ hP.s)) hl hz hz2
end Go.Proofs.YtdjaeoeejcmhdaaGreatDoor
set_option linter.unusedVariables false
set_option linter.unusedSimpArgs false
namespace Go.Proofs.YtdjaeoeejcmhdaaGreatDoor
open Go.RowKit Go.RR
theorem want_any {w : World} {S : Nat → Prop} {pb : Nat} {me number : Int} {st : PgS} (h : PgT w S pb me number st false []) (hb : ∀ k, S k → k < w.heap.size) (hbz : st.busy = false) (r : Int) (hr : r = 1 ∨ r = 2) (L : Tz24 w) (hd : pb ≠ 0) (hs2 : st.set < 32) :
    Calls Tryz.prog 21 #[.pointer (some ⟨pb, 0, none⟩), .int .i64 r] w (RetV (TellQ w S pb me number (wantF me st r).s (wantF me st r).lay (wantF me st r).l)) := by
  by_cases hle : r ≤ st.right
  · have e : wantF me st r = ⟨st, false, []⟩ := if_pos (.inr (.inr hle))
    rw [e]
    exact want_have h hb hbz r hr hle
  · have e1 : ¬ (st.busy = true ∨ (r ≠ 1 ∧ r ≠ 2) ∨ r ≤ st.right) := by
      rintro (e | e | e)
      · rw [hbz] at e; cases e
      · omega
      · exact hle e
    cases ho : st.owner
    · have e : wantF me st r = ⟨{ st with want := r }, false, [⟨st.prob, r, me, 0, 0, false⟩]⟩ := by
        unfold wantF
        rw [if_neg e1, if_neg (by rw [ho]; simp), if_neg (by rw [ho]; simp)]
      rw [e]
      rcases hr with rfl | rfl
      · exact want_ask1 h hb hbz ho (by omega)
      · exact want_ask2 h hb hbz ho (by omega)
    · by_cases hz : st.set = 0
      · have e : wantF me st r = ⟨holdF st 2, false, []⟩ := by
          unfold wantF
          rw [if_neg e1, if_pos ⟨ho, .inr hz⟩]
          unfold gatherF
          rw [if_pos hz]
        rw [e]
        rcases hr with rfl | rfl
        · exact want_zero1 h hb hbz ho hz (by omega)
        · exact want_zero2 h hb hbz ho hz (by omega)
      · rcases hr with rfl | rfl
        · have e : wantF me st 1 = ⟨holdF st 1, false, []⟩ := by
            unfold wantF
            rw [if_neg e1, if_neg (fun e => e.2.elim (fun e => absurd e (by decide)) hz), if_pos ho]
          rw [e]
          exact want_read h hb hbz ho hz (by omega)
        · have e : wantF me st 2 = ⟨{ st with want := 2, wait := st.set }, false, (nlistF st.set).map fun n => ⟨n, 5, me, 0, 0, false⟩⟩ := by
            unfold wantF
            rw [if_neg e1, if_pos ⟨ho, .inl rfl⟩]
            unfold gatherF
            rw [if_neg hz]
          rw [e]
          exact want_list h hb hbz ho (by omega) L hd hz hs2
theorem done_any {w : World} {S : Nat → Prop} {pb : Nat} {me number : Int} {st : PgS} (h : PgT w S pb me number st false []) (hb : ∀ k, S k → k < w.heap.size) (hf : st.forget < 0) :
    Calls Tryz.prog 25 #[.pointer (some ⟨pb, 0, none⟩)] w (RetV (TellQ w S pb me number (doneF me st).s (doneF me st).lay (doneF me st).l)) := by
  cases hh : st.held
  · have e : doneF me st = ⟨st, false, []⟩ := if_pos hh
    rw [e]
    exact done_no h hb hh
  · have e : doneF me st = ⟨{ st with held := false }, false, []⟩ := by
      unfold doneF
      rw [if_neg (by rw [hh]; simp), if_neg (by omega)]
    rw [e]
    exact done_yes h hb hh hf
end Go.Proofs.YtdjaeoeejcmhdaaGreatDoor
