/- A unit of memory: the place of an access. No condition. A unit of memory: words read and stored. No condition. A unit of memory: a new one, its satp, its mode, its fence. No condition. -/
import Derived.Test.YtdjaeoeejcmhdaaGreatDoorGs
import Derived.Test.YtdjaeoeejcmhdaaGreatDoorGj
import Derived.Test.YtdjaeoeejcmhdaaGreatDoorGf
set_option linter.unusedVariables false
set_option linter.unusedSimpArgs false
namespace Go.Proofs.YtdjaeoeejcmhdaaGreatDoor
open Go.RowKit Go.RR
/-- What place answers behind leaf. -/
def placeG (u : Mu) (va : Nat) (a : Int) (l : Leaf) (c : Int) : Nat × Int :=
  if c ≠ -1 then (0, c)
  else if !checkB l.p a u.mode then (0, pageC a)
  else if u.fr ≤ joinF l.p.ppn va l.level.toNat / 4096 then (0, boundC a) else (joinF l.p.ppn va l.level.toNat, -1)
theorem placeF_G (u : Mu) (va : Nat) (size a pick : Int) (h : alignedB va size = true) : placeF u va size a pick = (placeG u va a (leafF u va a pick).1.1 (leafF u va a pick).1.2, (leafF u va a pick).2) := by
  unfold placeF placeG
  rw [h]
  simp only [Bool.not_true, Bool.false_eq_true, if_false]
  split
  · rfl
  · split
    · rfl
    · split <;> rfl
theorem joinF_lt (ppn va l : Nat) (hv : va < 18446744073709551616) : joinF ppn va l < 18446744073709551616 * 2 := by
  unfold joinF
  have h1 : ppn * 4096 % 18446744073709551616 / 2 ^ (12 + 9 * l) * 2 ^ (12 + 9 * l) ≤ ppn * 4096 % 18446744073709551616 := Nat.div_mul_le_self _ _
  have h2 : ppn * 4096 % 18446744073709551616 < 18446744073709551616 := Nat.mod_lt _ (by omega)
  have h3 : va % 2 ^ (12 + 9 * l) ≤ va := Nat.mod_le _ _
  omega
set_option maxHeartbeats 1000000 in
set_option maxRecDepth 100000 in
theorem place_un {w : World} {ub : Nat} (va : Nat) (size a pick : Int) (hv : va < 18446744073709551616) (ha : Acc a) (h : alignedB va size = false) :
    Calls Tryz.prog 22 #[.pointer (some ⟨ub, 0, none⟩), .int .u64 va, .int .i64 size, .int .i64 a, .int .i64 pick] w (RetW (.tuple #[.int .u64 0, .int .i64 (alignC a)]) fun w' => Chg NoB w w') := by
  have HA := Lib.hid (aligned_any va size w hv)
  rw [h] at HA
  have HAl := Lib.hid fun w' => alignC_any a ha w'
  clear h hv ha
  go_enter Tryz.func22, Tryz.ntmps22
  go_wp2_with fail
  refine (HA.out).mono ?_
  rintro e w1 ⟨rfl, hw1⟩
  subst hw1
  go_wp2_with fail
  refine (HAl.out _).mono ?_
  rintro e w1 ⟨rfl, C1⟩
  go_wp2_with fail
  go_ret2
  exact ⟨rfl, C1⟩
set_option maxHeartbeats 2000000 in
set_option maxRecDepth 100000 in
theorem munit_place {SM SB : Nat → Prop} {w : World} {ub mb bb : Nat} {u : Mu} (h : MuAt w SM SB ub mb bb u) (va : Nat) (size a pick : Int) (hv : va < 18446744073709551616) (ha : Acc a) (p1 : -9223372036854775808 ≤ pick) (p2 : pick ≤ 9223372036854775807) :
    Calls Tryz.prog 22 #[.pointer (some ⟨ub, 0, none⟩), .int .u64 va, .int .i64 size, .int .i64 a, .int .i64 pick] w (RetW (.tuple #[.int .u64 (placeF u va size a pick).1.1, .int .i64 (placeF u va size a pick).1.2])
      fun w' => MuAt w' SM SB ub mb bb { u with tlb := (placeF u va size a pick).2 } ∧ Chg SB w w') := by
  cases hal : alignedB va size with
  | false =>
    have hp : placeF u va size a pick = ((0, alignC a), u.tlb) := by unfold placeF; rw [hal]; rfl
    rw [hp]
    refine (place_un va size a pick hv ha hal).mono ?_
    rintro e w' ⟨rfl, c⟩
    exact ⟨rfl, ⟨c.blk0 h.blk, h.mem.chg0 c, h.tlb.chg0 c, h.on, h.asid, h.mode, h.root, h.fr, h.n1, h.n2, h.n3, fun k hk => Nat.lt_of_lt_of_le (h.n4 k hk) c.size⟩, c.mono fun _ _ e => e.elim⟩
  | true =>
    rw [placeF_G u va size a pick hal]
    have hLok := leafF_ok h va a pick hv
    have HLf := Lib.hid (leaf_any h va a pick hv ha p1 p2)
    have HA := Lib.hid (aligned_any va size w hv)
    rw [hal] at HA
    obtain ⟨O, hO⟩ : ∃ O, leafF u va a pick = O := ⟨_, rfl⟩
    rw [hO] at HLf hLok ⊢
    obtain ⟨⟨l, c⟩, t⟩ := O
    dsimp only at HLf hLok ⊢
    have HCk := Lib.hid fun w' => check_mode l.p a ha w'
    have HPl := Lib.hid fun w' => place_any l va w' hLok.p.2.2 hv hLok.lv
    have HPg := Lib.hid fun w' => pageC_any a ha w'
    have HBd := Lib.hid fun w' => boundC_any a ha w'
    have HFr := Lib.hid fun (w' : World) (hm : MuAt w' SM SB ub mb bb { u with tlb := t }) => frames_any hm.mem
    have HG : Hid (placeG u va a l c = if c ≠ -1 then (0, c) else if !checkB l.p a UMode then (0, pageC a) else if u.fr ≤ joinF l.p.ppn va l.level.toNat / 4096 then (0, boundC a) else (joinF l.p.ppn va l.level.toNat, -1)) := Lib.hid (by
      unfold placeG
      rw [h.mode])
    have hj2 := joinF_lt l.p.ppn va l.level.toNat hv
    obtain ⟨J, hJ⟩ : ∃ J, joinF l.p.ppn va l.level.toNat = J := ⟨_, rfl⟩
    rw [hJ] at HG HPl hj2
    obtain ⟨K, hK⟩ : ∃ K, checkB l.p a UMode = K := ⟨_, rfl⟩
    rw [hK] at HG HCk
    obtain ⟨G, hGG⟩ : ∃ G, placeG u va a l c = G := ⟨_, rfl⟩
    rw [hGG] at HG ⊢
    have hfr := h.fr
    have HNX : Hid (∀ w1 w2, MuAt w1 SM SB ub mb bb { u with tlb := t } → Chg SB w w1 → Chg NoB w1 w2 → MuAt w2 SM SB ub mb bb { u with tlb := t } ∧ Chg SB w w2) := Lib.hid (fun w1 w2 h1 c1 c => 
      ⟨⟨c.blk0 h1.blk, h1.mem.chg0 c, h1.tlb.chg0 c, h1.on, h1.asid, h1.mode, h1.root, h1.fr, h1.n1, h1.n2, h1.n3, fun k hk => Nat.lt_of_lt_of_le (h1.n4 k hk) c.size⟩, c1.then0 c⟩)
    clear h hLok hO hJ hK hGG hv ha p1 p2 hal
    obtain ⟨⟨v, r, pw, x, u', g, pa, d, rsw, ppn⟩, level, pos⟩ := l
    dsimp only at HLf HCk HPl HG
    go_enter Tryz.func22, Tryz.ntmps22
    go_wp2_with fail
    refine (HA.out).mono ?_
    rintro e w1 ⟨rfl, hw1⟩
    subst hw1
    go_wp2_with fail
    refine (HLf.out).mono ?_
    rintro e w1 ⟨rfl, hM, C1⟩
    have HM := Lib.hid hM
    have HC1 := Lib.hid C1
    clear hM C1
    by_cases hc : c = -1
    · subst hc
      have HB2 := Lib.hid (Blk.new w1 #[.bool v, .bool r, .bool pw, .bool x, .bool u', .bool g, .bool pa, .bool d, .int .i64 rsw, .int .u64 ppn, .int .i64 level, .int .u64 pos] 137)
      have HC2 := Lib.hid ((Chg.refl NoB w1).alloc (.cells #[.bool v, .bool r, .bool pw, .bool x, .bool u', .bool g, .bool pa, .bool d, .int .i64 rsw, .int .u64 ppn, .int .i64 level, .int .u64 pos] 137))
      go_upto_region 8 with fail
      have HU2 := Lib.hid (HC2.out.blk0 HM.out.blk)
      generalize w1.alloc (.cells #[.bool v, .bool r, .bool pw, .bool x, .bool u', .bool g, .bool pa, .bool d, .int .i64 rsw, .int .u64 ppn, .int .i64 level, .int .u64 pos] 137) = w2 at *
      obtain ⟨lb, hlb⟩ : ∃ lb, w1.heap.size = lb := ⟨_, rfl⟩
      rw [hlb] at HB2 ⊢
      clear hlb
      have fl := HB2.out.ever
      have ll := HB2.out.everL
      have fu := HU2.out.ever
      have lu := HU2.out.everL
      have c2 := Chg.refl NoB w2
      go_region_held3 (fun w' => Chg NoB w2 w') ((repeat (first | with_reducible assumption | with_reducible apply Chg.drew | with_reducible apply Chg.drewN | with_reducible apply Chg.alloc))) (first | (go_at_call 56; (with_reducible refine (HCk.out _).mono ?_); rintro e w9 ⟨rfl, hC⟩; have c9 := Chg.step (by with_reducible assumption : Chg NoB w2 _) hC; clear hC))
      have c9 : Chg NoB w2 w9 := by with_reducible assumption
      cases K
      · have HO : Hid (G = (0, pageC a)) := Lib.hid (by rw [HG.out]; rfl)
        go_wp2_with fail
        refine (HPg.out _).mono ?_
        rintro e w3 ⟨rfl, C3⟩
        have HX := Lib.hid (HNX.out _ _ HM.out HC1.out (HC2.out.step (c9.step C3)))
        clear fl ll fu lu c2 c9 C3
        go_wp2_with fail
        go_ret2
        exact ⟨by rw [HO.out]; rfl, HX.out⟩
      · go_wp2_with fail
        refine (HPl.out _).mono ?_
        rintro e w3 ⟨rfl, C3⟩
        have c3 := c9.step C3
        have HM3 := Lib.hid (HNX.out _ _ HM.out HC1.out (HC2.out.step c3))
        have hq : ((J / 4096 : Nat) : Int) = (J : Int) / 4096 := by omega
        have HQ := Lib.hid hq
        clear hq fl ll c9 C3
        go_wp2_with fail
        refine (HFr.out _ HM3.out.1).mono ?_
        rintro e w4 ⟨rfl, hw4⟩
        subst hw4
        by_cases hb : u.fr ≤ J / 4096
        · have HO : Hid (G = (0, boundC a)) := Lib.hid (by rw [HG.out, if_neg (by simp), if_neg (by simp), if_pos hb])
          have tb : decide ((u.fr : Int) ≤ (J : Int) / 4096) = true := decide_eq_true (by omega)
          clear hb
          go_wp2_with fail
          refine (HBd.out _).mono ?_
          rintro e w5 ⟨rfl, C5⟩
          have HX := Lib.hid (HNX.out _ _ HM.out HC1.out (HC2.out.step (c3.step C5)))
          clear C5
          go_wp2_with fail
          go_ret2
          exact ⟨by rw [HO.out]; rfl, HX.out⟩
        · have HO : Hid (G = (J, -1)) := Lib.hid (by rw [HG.out, if_neg (by simp), if_neg (by simp), if_neg hb])
          have tb : decide ((u.fr : Int) ≤ (J : Int) / 4096) = false := decide_eq_false (by omega)
          clear hb
          go_wp2_with fail
          go_ret2
          exact ⟨by rw [HO.out]; rfl, HM3.out⟩
    · have hc1 : (c == -1) = false := by rw [beq_eq_false_iff_ne]; exact hc
      have hc2 : (c != -1) = true := by simp [hc]
      have HO : Hid (G = (0, c)) := Lib.hid (by rw [HG.out, if_pos hc])
      have HX := Lib.hid (HNX.out _ _ HM.out HC1.out ((Chg.refl NoB w1).alloc (.cells #[.bool v, .bool r, .bool pw, .bool x, .bool u', .bool g, .bool pa, .bool d, .int .i64 rsw, .int .u64 ppn, .int .i64 level, .int .u64 pos] 137)))
      clear hc
      go_wp2_with fail
      go_ret2
      exact ⟨by rw [HO.out]; rfl, HX.out⟩
end Go.Proofs.YtdjaeoeejcmhdaaGreatDoor
set_option linter.unusedVariables false
set_option linter.unusedSimpArgs false
namespace Go.Proofs.YtdjaeoeejcmhdaaGreatDoor
open Go.RowKit Go.RR

/-- A place that was found: it lies in the memory, and is aligned. -/
theorem placeF_ok {u : Mu} {va : Nat} {size a pick : Int} (hv : va < 18446744073709551616) (hf : u.fr ≤ 1048576) (h : (placeF u va size a pick).1.2 = -1) (hac : Acc a)
    (hlv : levelB (leafF u va a pick).1.1.level = true) :
    alignedB (placeF u va size a pick).1.1 size = true ∧ (placeF u va size a pick).1.1 / 4096 < u.fr ∧ (placeF u va size a pick).1.1 < 4294967296 := by
  cases hal : alignedB va size with
  | false =>
    have hp : placeF u va size a pick = ((0, alignC a), u.tlb) := by unfold placeF; rw [hal]; rfl
    rw [hp] at h
    rcases hac with rfl | rfl | rfl <;> simp [alignC] at h
  | true =>
    rw [placeF_G u va size a pick hal] at h ⊢
    obtain ⟨⟨⟨l, c⟩, t⟩, hO⟩ : ∃ O, leafF u va a pick = O := ⟨_, rfl⟩
    rw [hO] at h hlv ⊢
    dsimp only at h hlv ⊢
    unfold placeG at h ⊢
    split at h
    · rename_i hc; exact absurd h hc
    · rename_i hc
      rw [if_neg hc]
      split at h
      · rcases hac with rfl | rfl | rfl <;> simp [pageC] at h
      · rename_i hk
        rw [if_neg hk]
        split at h
        · rcases hac with rfl | rfl | rfl <;> simp [boundC] at h
        · rename_i hb
          rw [if_neg hb]
          have hlt : joinF l.p.ppn va l.level.toNat / 4096 < u.fr := by omega
          refine ⟨?_, hlt, by show joinF l.p.ppn va l.level.toNat < _; omega⟩
          have hsz : sizeB size = true := by unfold alignedB at hal; simp at hal; exact hal.1
          have hmod : joinF l.p.ppn va l.level.toNat % 4096 = va % 4096 := by
            unfold joinF
            have hp : (2 : Nat) ^ (12 + 9 * l.level.toNat) = 4096 * 2 ^ (9 * l.level.toNat) := by rw [Nat.pow_add]
            rw [hp]
            generalize 2 ^ (9 * l.level.toNat) = q
            generalize l.p.ppn * 4096 % 18446744073709551616 / (4096 * q) = m
            rw [Nat.add_mod, show m * (4096 * q) % 4096 = 0 by rw [← Nat.mul_assoc, Nat.mul_comm m, Nat.mul_assoc]; exact Nat.mul_mod_right _ _, Nat.zero_add, Nat.mod_mod, Nat.mod_mul_right_mod]
          unfold alignedB at hal ⊢
          rw [hsz] at hal ⊢
          simp only [Bool.true_and, decide_eq_true_eq] at hal ⊢
          rcases sizeB_of hsz with rfl | rfl | rfl | rfl
          · simp only [show (1 : Int).toNat = 1 from rfl] at hal ⊢; omega
          · simp only [show (2 : Int).toNat = 2 from rfl] at hal ⊢; omega
          · simp only [show (4 : Int).toNat = 4 from rfl] at hal ⊢; omega
          · simp only [show (8 : Int).toNat = 8 from rfl] at hal ⊢; omega
theorem MuAt.place_ok {SM SB : Nat → Prop} {w : World} {ub mb bb : Nat} {u : Mu} (h : MuAt w SM SB ub mb bb u) {va : Nat} {size a pick : Int} (hv : va < 18446744073709551616) (ha : Acc a) (hc : (placeF u va size a pick).1.2 = -1) :
    alignedB (placeF u va size a pick).1.1 size = true ∧ (placeF u va size a pick).1.1 / 4096 < u.fr ∧ (placeF u va size a pick).1.1 < 4294967296 :=
  placeF_ok hv h.fr hc ha (leafF_ok h va a pick hv).lv
set_option maxHeartbeats 1000000 in
set_option maxRecDepth 100000 in
theorem munit_read {SM SB : Nat → Prop} {w : World} {ub mb bb : Nat} {u : Mu} (h : MuAt w SM SB ub mb bb u) (va : Nat) (size : Nat) (a pick : Int) (hv : va < 18446744073709551616) (ha : Acc a) (p1 : -9223372036854775808 ≤ pick) (p2 : pick ≤ 9223372036854775807) :
    Calls Tryz.prog 24 #[.pointer (some ⟨ub, 0, none⟩), .int .u64 va, .int .i64 size, .int .i64 a, .int .i64 pick] w (RetW (.tuple #[.int .u64 (readF u va size a pick).1.1, .int .i64 (readF u va size a pick).1.2])
      fun w' => MuAt w' SM SB ub mb bb (readF u va size a pick).2 ∧ Chg SB w w') := by
  have HP := Lib.hid (munit_place h va size a pick hv ha p1 p2)
  have hok := fun hc => h.place_ok (size := size) (pick := pick) hv ha hc
  obtain ⟨R, hR⟩ : ∃ R, placeF u va size a pick = R := ⟨_, rfl⟩
  rw [hR] at HP hok
  obtain ⟨⟨at', c⟩, t⟩ := R
  have HRd : Hid (readF u va size a pick = if c ≠ -1 then ((0, c), { u with tlb := t }) else ((getW u.b at' (size : Int).toNat, -1), { u with tlb := t })) := Lib.hid (by unfold readF; rw [hR])
  obtain ⟨O, hO⟩ : ∃ O, readF u va size a pick = O := ⟨_, rfl⟩
  rw [hO] at HRd ⊢
  dsimp only at HP hok
  have hfr := h.fr
  have hroot := h.root
  clear hR hO h hv ha p1 p2
  go_enter Tryz.func24, Tryz.ntmps24
  go_wp2_with fail
  refine HP.out.mono ?_
  rintro e w1 ⟨rfl, hM, C1⟩
  have HM := Lib.hid hM
  have HC1 := Lib.hid C1
  by_cases hc : c = -1
  · subst hc
    obtain ⟨q1, q2, q3⟩ := hok rfl
    have HL := Lib.hid (Load_any hM.mem at' size (by omega) hfr)
    rw [check_ok q1 q2, if_pos rfl] at HL
    have HO : Hid (O = ((getW u.b at' size, -1), { u with tlb := t })) := Lib.hid (by rw [HRd.out, if_neg (by simp)]; rfl)
    have hub := hM.blk.cell' (i := 0) (v := .pointer (some ⟨mb, 0, none⟩)) rfl
    have hul := hM.blk.lt
    clear hok hM C1 q1 q2 q3
    go_wp2_with fail
    refine HL.out.mono ?_
    rintro e w2 ⟨rfl, hw2⟩
    subst hw2
    go_wp2_with fail
    go_ret2
    exact ⟨by rw [HO.out]; first | done | rfl, by rw [HO.out]; exact ⟨HM.out, HC1.out⟩⟩
  · have hc1 : (c == -1) = false := by rw [beq_eq_false_iff_ne]; exact hc
    have hc2 : (c != -1) = true := by simp [hc]
    have HO : Hid (O = ((0, c), { u with tlb := t })) := Lib.hid (by rw [HRd.out, if_pos hc])
    clear hok hM C1 hc
    go_wp2_with fail
    go_ret2
    exact ⟨by rw [HO.out]; first | done | rfl, by rw [HO.out]; exact ⟨HM.out, HC1.out⟩⟩
set_option maxRecDepth 100000 in
theorem munit_load {SM SB : Nat → Prop} {w : World} {ub mb bb : Nat} {u : Mu} (h : MuAt w SM SB ub mb bb u) (va : Nat) (size : Nat) (pick : Int) (hv : va < 18446744073709551616) (p1 : -9223372036854775808 ≤ pick) (p2 : pick ≤ 9223372036854775807) :
    Calls Tryz.prog 10 #[.pointer (some ⟨ub, 0, none⟩), .int .u64 va, .int .i64 size, .int .i64 pick] w (RetW (.tuple #[.int .u64 (readF u va size 1 pick).1.1, .int .i64 (readF u va size 1 pick).1.2])
      fun w' => MuAt w' SM SB ub mb bb (readF u va size 1 pick).2 ∧ Chg SB w w') := by
  have H := Lib.hid (munit_read h va size 1 pick hv (by unfold Acc; omega) p1 p2)
  obtain ⟨O, hO⟩ : ∃ O, readF u va (size : Nat) 1 pick = O := ⟨_, rfl⟩
  rw [hO] at H
  rw [show readF u va size 1 pick = O from hO]
  clear h hO hv p1 p2
  go_enter Tryz.func10, Tryz.ntmps10
  go_wp2_with fail
  refine H.out.mono ?_
  rintro e w1 ⟨rfl, hX⟩
  have HX := Lib.hid hX
  clear hX
  go_wp2_with fail
  go_ret2
  exact ⟨rfl, HX.out⟩
theorem MuAt.step {SM SB : Nat → Prop} {w w1 w' : World} {ub mb bb : Nat} {u u1 : Mu} {b : By} (h : MuAt w SM SB ub mb bb u) (h1 : MuAt w1 SM SB ub mb bb u1) (c1 : Chg SB w w1) (hm : MemAt w' (Grow SM w1) mb b u1.fr) (c : Chg SM w1 w') :
    MuAt w' (Grow SM w) SB ub mb bb { u1 with b := b } ∧ Chg (fun k => SM k ∨ SB k) w w' := by
  refine ⟨⟨c.blk h1.blk h1.n1, hm.mono fun k _ e => e.elim .inl fun e => .inr (Nat.le_trans c1.size e), h1.tlb.chg c fun k hk e => h1.n3 k e hk, h1.on, h1.asid, h1.mode, h1.root, h1.fr, fun e => e.elim h.n1 fun e => by have := h.blk.lt; omega, h1.n2, fun k e hk => e.elim (fun e => h.n3 k e hk) fun e => by have := h.n4 k hk; omega, fun k hk => Nat.lt_of_lt_of_le (h1.n4 k hk) c.size⟩, ?_⟩
  exact (c1.mono (S' := fun k => SM k ∨ SB k) fun _ _ e => .inr e).trans c fun k _ e => .inl e
set_option maxHeartbeats 1000000 in
set_option maxRecDepth 100000 in
theorem munit_store {SM SB : Nat → Prop} {w : World} {ub mb bb : Nat} {u : Mu} (h : MuAt w SM SB ub mb bb u) (va size v : Nat) (pick : Int) (hv : va < 18446744073709551616) (hvv : v < 18446744073709551616) (p1 : -9223372036854775808 ≤ pick) (p2 : pick ≤ 9223372036854775807) :
    Calls Tryz.prog 9 #[.pointer (some ⟨ub, 0, none⟩), .int .u64 va, .int .i64 size, .int .u64 v, .int .i64 pick] w (RetW (.int .i64 (storeF u va size v pick).1)
      fun w' => MuAt w' (Grow SM w) SB ub mb bb (storeF u va size v pick).2 ∧ Chg (fun k => SM k ∨ SB k) w w') := by
  have HP := Lib.hid (munit_place h va size 2 pick hv (by unfold Acc; omega) p1 p2)
  have hok := fun hc => h.place_ok (size := size) (a := 2) (pick := pick) hv (by unfold Acc; omega) hc
  obtain ⟨R, hR⟩ : ∃ R, placeF u va size 2 pick = R := ⟨_, rfl⟩
  rw [hR] at HP hok
  obtain ⟨⟨at', c⟩, t⟩ := R
  have HRd : Hid (storeF u va size v pick = if c ≠ -1 then (c, { u with tlb := t }) else (-1, { u with tlb := t, b := putW u.b at' (size : Int).toNat v })) := Lib.hid (by unfold storeF; rw [hR])
  obtain ⟨O, hO⟩ : ∃ O, storeF u va size v pick = O := ⟨_, rfl⟩
  rw [hO] at HRd ⊢
  dsimp only at HP hok
  have hfr := h.fr
  have HH := Lib.hid h
  clear hR hO h hv p1 p2
  go_enter Tryz.func9, Tryz.ntmps9
  go_wp2_with fail
  refine HP.out.mono ?_
  rintro e w1 ⟨rfl, hM, C1⟩
  have HM := Lib.hid hM
  have HC1 := Lib.hid C1
  by_cases hc : c = -1
  · subst hc
    obtain ⟨q1, q2, q3⟩ := hok rfl
    have HL := Lib.hid (Store_any hM.mem at' size v (by omega) hfr hvv q1 q2)
    have HO : Hid (O = (-1, { u with tlb := t, b := putW u.b at' size v })) := Lib.hid (by rw [HRd.out, if_neg (by simp)]; rfl)
    have hub := hM.blk.cell' (i := 0) (v := .pointer (some ⟨mb, 0, none⟩)) rfl
    have hul := hM.blk.lt
    clear hok hM C1 q1 q2 q3
    go_wp2_with fail
    refine HL.out.mono ?_
    rintro e w2 ⟨rfl, hm2, C2⟩
    have HX := Lib.hid (HH.out.step HM.out HC1.out hm2 C2)
    clear hm2 C2
    go_wp2_with fail
    go_ret
    exact ⟨by rw [HO.out]; first | done | rfl, by rw [HO.out]; exact HX.out⟩
  · have hc1 : (c == -1) = false := by rw [beq_eq_false_iff_ne]; exact hc
    have HO : Hid (O = (c, { u with tlb := t })) := Lib.hid (by rw [HRd.out, if_pos hc])
    have HX : Hid (MuAt w1 (Grow SM w) SB ub mb bb { u with tlb := t } ∧ Chg (fun k => SM k ∨ SB k) w w1) := Lib.hid (by
      refine ⟨⟨hM.blk, hM.mem.mono fun k _ e => .inl e, hM.tlb, hM.on, hM.asid, hM.mode, hM.root, hM.fr, fun e => e.elim hM.n1 fun e => by have := HH.out.blk.lt; omega, hM.n2, fun k e hk => e.elim (fun e => hM.n3 k e hk) fun e => by have := HH.out.n4 k hk; omega, hM.n4⟩, C1.mono fun _ _ e => .inr e⟩)
    clear hok hM C1 hc
    go_wp2_with fail
    go_ret
    exact ⟨by rw [HO.out]; first | done | rfl, by rw [HO.out]; exact HX.out⟩
end Go.Proofs.YtdjaeoeejcmhdaaGreatDoor
set_option linter.unusedVariables false
set_option linter.unusedSimpArgs false
namespace Go.Proofs.YtdjaeoeejcmhdaaGreatDoor
open Go.RowKit Go.RR
set_option maxRecDepth 100000 in
theorem unitNew_any (mb bb : Nat) (w : World) : Calls Tryz.prog 34 #[.pointer (some ⟨mb, 0, none⟩), .pointer (some ⟨bb, 0, none⟩)] w (RetW (.pointer (some ⟨w.heap.size, 0, none⟩)) fun w' => Blk w' w.heap.size #[.pointer (some ⟨mb, 0, none⟩), .pointer (some ⟨bb, 0, none⟩), .bool false, .int .i64 0, .int .u64 0, .bool false, .bool false, .bool false] 91 ∧ Chg NoB w w') := by
  have HX : Hid (Blk (w.alloc (.cells #[.pointer (some ⟨mb, 0, none⟩), .pointer (some ⟨bb, 0, none⟩), .bool false, .int .i64 0, .int .u64 0, .bool false, .bool false, .bool false] 91)) w.heap.size #[.pointer (some ⟨mb, 0, none⟩), .pointer (some ⟨bb, 0, none⟩), .bool false, .int .i64 0, .int .u64 0, .bool false, .bool false, .bool false] 91 ∧ Chg NoB w (w.alloc (.cells #[.pointer (some ⟨mb, 0, none⟩), .pointer (some ⟨bb, 0, none⟩), .bool false, .int .i64 0, .int .u64 0, .bool false, .bool false, .bool false] 91))) := Lib.hid ⟨Blk.new _ _ _, (Chg.refl NoB w).alloc _⟩
  go_enter Tryz.func34, Tryz.ntmps34
  go_wp2_with fail
  go_ret
  exact ⟨rfl, HX.out⟩
set_option maxRecDepth 100000 in
theorem unitSatp_any {w : World} {ub mb bb : Nat} (hb : Blk w ub #[.pointer (some ⟨mb, 0, none⟩), .pointer (some ⟨bb, 0, none⟩), .bool false, .int .i64 0, .int .u64 0, .bool false, .bool false, .bool false] 91) (root : Nat) (hr : root < 17592186044416) :
    Calls Tryz.prog 38 #[.pointer (some ⟨ub, 0, none⟩), .int .u64 (satpW ⟨true, 1, root⟩)] w (RetW (.bool true) fun w' => Blk w' ub #[.pointer (some ⟨mb, 0, none⟩), .pointer (some ⟨bb, 0, none⟩), .bool true, .int .i64 1, .int .u64 root, .bool false, .bool false, .bool false] 91 ∧ Chg (fun k => k = ub) w w') := by
  have HG := Lib.hid fun w' => getSatp_any ⟨true, 1, root⟩ ⟨by show (0 : Int) ≤ 1; decide, by show (1 : Int) < 65536; decide, hr⟩ rfl w'
  obtain ⟨W, hW⟩ : ∃ W, satpW ⟨true, 1, root⟩ = W := ⟨_, rfl⟩
  rw [hW] at HG ⊢
  clear hW
  dsimp only at HG
  have HB := Lib.hid hb
  have hlt := hb.lt
  go_enter Tryz.func38, Tryz.ntmps38
  go_wp2_with fail
  refine (HG.out _).mono ?_
  rintro e w1 ⟨rfl, C1⟩
  have B1 := C1.blk0 HB.out
  have HX := Lib.hid (And.intro ((((B1.set 2 (.bool true)).set 3 (.int .i64 1)).set 4 (.int .u64 root)).alloc (.cells #[.bool true, .int .i64 1, .int .u64 root] 87))
    (((((C1.mono (S' := fun k => k = ub) fun _ _ e => e.elim).setCell (a := ⟨ub, 2, none⟩) (.inl rfl) (.bool true)).setCell (a := ⟨ub, 3, none⟩) (.inl rfl) (.int .i64 1)).setCell (a := ⟨ub, 4, none⟩) (.inl rfl) (.int .u64 root)).alloc (.cells #[.bool true, .int .i64 1, .int .u64 root] 87)))
  have u2 := B1.cell' (i := 2) (v := .bool false) rfl
  have u3 := B1.cell' (i := 3) (v := .int .i64 0) rfl
  have u4 := B1.cell' (i := 4) (v := .int .u64 0) rfl
  have uf := B1.frozen
  have ul := B1.lt
  have une : ub ≠ w1.heap.size := Nat.ne_of_lt ul
  clear hb C1 B1
  go_wp2_with fail
  go_ret
  exact ⟨rfl, HX.out⟩
set_option maxRecDepth 100000 in
theorem unitMode_any {w : World} {ub mb bb root : Nat} (hb : Blk w ub #[.pointer (some ⟨mb, 0, none⟩), .pointer (some ⟨bb, 0, none⟩), .bool true, .int .i64 1, .int .u64 root, .bool false, .bool false, .bool false] 91) :
    Calls Tryz.prog 41 #[.pointer (some ⟨ub, 0, none⟩), .agg #[.bool true, .bool false, .bool false]] w (RetW (.tuple #[]) fun w' => Blk w' ub #[.pointer (some ⟨mb, 0, none⟩), .pointer (some ⟨bb, 0, none⟩), .bool true, .int .i64 1, .int .u64 root, .bool true, .bool false, .bool false] 91 ∧ Chg (fun k => k = ub) w w') := by
  have HX := Lib.hid (And.intro ((((hb.set 5 (.bool true)).set 6 (.bool false)).set 7 (.bool false)).alloc (.cells #[.bool true, .bool false, .bool false] 89))
    (((((Chg.refl (fun k => k = ub) w).setCell (a := ⟨ub, 5, none⟩) (.inl rfl) (.bool true)).setCell (a := ⟨ub, 6, none⟩) (.inl rfl) (.bool false)).setCell (a := ⟨ub, 7, none⟩) (.inl rfl) (.bool false)).alloc (.cells #[.bool true, .bool false, .bool false] 89)))
  have u2 := hb.cell' (i := 5) (v := .bool false) rfl
  have u3 := hb.cell' (i := 6) (v := .bool false) rfl
  have u4 := hb.cell' (i := 7) (v := .bool false) rfl
  have uf := hb.frozen
  have ul := hb.lt
  have une : ub ≠ w.heap.size := Nat.ne_of_lt ul
  clear hb
  go_enter Tryz.func41, Tryz.ntmps41
  go_wp2_with fail
  go_end0
  exact ⟨rfl, HX.out⟩
set_option maxRecDepth 100000 in
theorem munit_fence {SM SB : Nat → Prop} {w : World} {ub mb bb : Nat} {u : Mu} (h : MuAt w SM SB ub mb bb u) (va vb : Nat) (hv : va < 18446744073709551616) (hc : w.cell? ⟨vb, 0, none⟩ = some (.int .u64 va)) (hn : ¬ SB vb) :
    Calls Tryz.prog 91 #[.pointer (some ⟨ub, 0, none⟩), .slice (some ⟨vb, 0, none⟩) 1 1, .slice none 0 0] w (RetV fun v w' => ∃ n : Int, v = .int .i64 n ∧ MuAt w' SM SB ub mb bb { u with tlb := tlbFence u.tlb va } ∧ Chg SB w w') := by
  have HF := Lib.hid (tlbFence_any h.tlb va vb hv hc hn)
  have u1 := h.blk.cell' (i := 1) (v := .pointer (some ⟨bb, 0, none⟩)) rfl
  have ul := h.blk.lt
  have HX : Hid (∀ w', TlbAt w' SB bb (tlbFence u.tlb va) → Chg SB w w' → MuAt w' SM SB ub mb bb { u with tlb := tlbFence u.tlb va } ∧ Chg SB w w') := Lib.hid (fun w' ht cs =>
    ⟨⟨cs.blk h.blk h.n2, h.mem.chg cs h.n3, ht, h.on, h.asid, h.mode, h.root, h.fr, h.n1, h.n2, h.n3, fun k hk => Nat.lt_of_lt_of_le (h.n4 k hk) cs.size⟩, cs⟩)
  clear h hc hv hn
  go_enter Tryz.func91, Tryz.ntmps91
  go_wp2_with fail
  refine HF.out.mono ?_
  rintro e w1 ⟨v, rfl, n, rfl, ht, cs⟩
  have HY := Lib.hid (HX.out _ ht cs)
  clear ht cs
  go_wp2_with fail
  go_ret
  exact ⟨_, rfl, n, rfl, HY.out⟩
end Go.Proofs.YtdjaeoeejcmhdaaGreatDoor
