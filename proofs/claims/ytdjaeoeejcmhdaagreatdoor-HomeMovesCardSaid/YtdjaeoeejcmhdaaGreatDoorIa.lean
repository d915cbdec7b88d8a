/- Homes that talk: the busy pages of a home. No condition. Homes that talk: how many busy pages there are. No condition. Homes that talk: all that was made, and where. No condition. Homes that talk: what must be answered, ahead of everything else. No condition. -/
import Derived.Test.YtdjaeoeejcmhdaaGreatDoorHz
import Derived.Test.YtdjaeoeejcmhdaaGreatDoorHn
import Derived.Test.YtdjaeoeejcmhdaaGreatDoorHx
import Derived.Test.YtdjaeoeejcmhdaaGreatDoorHy
set_option linter.unusedVariables false
set_option linter.unusedSimpArgs false
namespace Go.Proofs.YtdjaeoeejcmhdaaGreatDoor
open Go.RowKit Go.RR
def busyP (ps : List (Int × Nat × PgS)) (q : Int) : Bool := match hLook ps q with | some x => x.2.busy | none => false
theorem look_in {ps : List (Int × Nat × PgS)} {q : Int} (h : q ∈ ps.map (·.1)) : ∃ pb st, hLook ps q = some (pb, st) := by
  obtain ⟨p, hp, rfl⟩ := List.mem_map.1 h
  unfold hLook
  cases e : ps.find? fun x => x.1 == p.1 with
  | some x => exact ⟨_, _, rfl⟩
  | none => exact absurd (List.find?_eq_none.1 e p hp) (by simp)
set_option maxHeartbeats 4000000 in
set_option maxRecDepth 100000 in
theorem hbusy_n {w : World} {S : Nat → Prop} {hb spb : Nat} {me n0 : Int} {ps : List (Int × Nat × PgS)} (a : HmN w S hb spb me n0 0 2 ps) (hl : ps.length ≤ 1000) :
    Calls Tryz.prog 12 #[.pointer (some ⟨hb, 0, none⟩)] w (RetV fun v w' => ∃ l : List Int, l.Perm ((ps.map (·.1)).filter (busyP ps)) ∧ Own w' (fun k => w.heap.size ≤ k) 3 1 v l.length (l.map (Value.int .i64)) ∧ Chg NoB w w') := by
  obtain ⟨mb, hmS, hB, hM, hSt⟩ := a.ex
  have f6 := hB.cell' (i := 6) (v := .map (some mb)) rfl
  have fl := hB.lt
  have HK := Lib.hid (keys_call (some mb) w)
  have HSo := Lib.hid (hmn_sorted hM hSt a.kn hl)
  have HA := Lib.hid a
  have HL := Lib.hid hl
  clear a hl hB hM hSt hmS
  go_enter Tryz.func12, Tryz.ntmps12
  go_wp2_with fail
  with_reducible refine HK.out.mono ?_
  rintro e w1 ⟨rfl, hw⟩
  subst hw
  go_wp2_with fail
  with_reducible refine HSo.out.mono ?_
  rintro e w2 ⟨v, rfl, ks, hk, hO, C2⟩
  obtain ⟨kp, kc, hv⟩ := hO.form
  subst hv
  obtain ⟨n, hnl⟩ : ∃ n, ks.length = n := ⟨_, rfl⟩
  rw [hnl] at hO
  simp only [hnl]
  have hkl : n ≤ 1000 := by have := hk.length_eq; rw [List.length_map, hnl] at this; have := HL.out; omega
  have HKN := Lib.hid hnl
  have HKs := Lib.hid hk
  have HOk := Lib.hid hO
  have HC2 := Lib.hid C2
  clear hk hO C2 hnl f6 fl HK HSo
  go_wp2_with fail
  go_loopg [16, 3] n (fun k v o wr => ∃ (i : Nat) (o' : Value), v = .int .i64 i ∧ o = o' ∧ i ≤ n ∧ k = n - i ∧ Own wr (fun k => w2.heap.size ≤ k) 3 1 o' ((ks.take i).filter (busyP ps)).length (((ks.take i).filter (busyP ps)).map (Value.int .i64)) ∧ Chg NoB w2 wr ∧ Sl wr (fun k => k < w2.heap.size) 1 (.slice kp n kc) n (ks.map (Value.int .i64)))
  case atStart => exact ⟨0, _, rfl, rfl, by omega, by omega, Own.nil _ _ _ _, Chg.refl NoB _, HOk.out.sl.monoIn fun k h _ => h⟩
  case round =>
    obtain ⟨i, o, rfl, rfl, hin, hk, hO, hC, hS⟩ := hrel
    have HK := Lib.hid hk
    have HO := Lib.hid hO
    have HC := Lib.hid hC
    have HS := Lib.hid hS
    clear hk hO hC
    by_cases hi : i < n
    · have t1 : decide ((i : Int) < n) = true := decide_eq_true (by omega)
      have t2 : decide (i < n) = true := decide_eq_true hi
      obtain ⟨-, p, c, hv, hnc, hr⟩ := hS
      cases hv
      obtain ⟨g, off, rfl, hgS, hg, hcell⟩ := hr (by omega)
      have hil : i < ks.length := by rw [HKN.out]; exact hi
      have fx := hcell i (.int .i64 ks[i]) (by rw [List.getElem?_map, List.getElem?_eq_getElem hil]; rfl)
      have hkm : ks[i] ∈ ps.map (·.1) := HKs.out.mem_iff.1 (List.getElem_mem hil)
      obtain ⟨x, hx⟩ : ∃ x, ks[i] = x := ⟨_, rfl⟩
      rw [hx] at fx hkm
      have HX : Hid (ks[i]'hil = x) := Lib.hid hx
      obtain ⟨pb, ⟨right, owner, prob, set, want, wait, held, forget⟩, hlk⟩ := look_in hkm
      have hkb : 0 ≤ x ∧ x < 2 := by
        obtain ⟨q, hq, rfl⟩ := List.mem_map.1 hkm
        exact HA.out.kn q hq
      have HSt := Lib.hid (hState_kn ((HA.out.chg0 HC2.out).chg0 HC.out) x hkb.1 hkb.2 hlk)
      unfold stCe at HSt
      dsimp only at HSt
      have HBz : Hid (busyP ps x = (decide (want ≠ 0) || held)) := Lib.hid (by unfold busyP; rw [hlk]; rfl)
      clear hr hcell hx hkb hkm hlk
      go_wp2_with fail
      with_reducible refine HSt.out.mono ?_
      rintro e w3 ⟨rfl, C3⟩
      have C4 := C3.alloc (.cells #[.int .i64 right, .bool owner, .int .i64 prob, .int .u16 set, .int .i64 want, .int .u16 wait, .bool held, .int .i64 forget, .int .i64 0] 99)
      clear C3 fx
      obtain ⟨b, hb⟩ : ∃ b, (want == 0) = b := ⟨_, rfl⟩
      cases b
      · have hb3 : (want != 0) = true := by show (!(want == 0)) = true; rw [hb]; rfl
        have hz : want ≠ 0 := by simpa using hb
        have hbb : busyP ps x = true := by rw [HBz.out]; rw [decide_eq_true hz]; rfl
        obtain ⟨pv, cv, hov⟩ := HO.out.form
        subst hov
        have oS := HO.out.chg0 C4
        have HC4 := Lib.hid (HC.out.step C4)
        have HS3 := Lib.hid (HS.out.chg C4 fun k _ e => e.elim)
        have D3 := (Chg.refl NoB (w3.alloc (.cells #[.int .i64 right, .bool owner, .int .i64 prob, .int .u16 set, .int .i64 want, .int .u16 wait, .bool held, .int .i64 forget, .int .i64 0] 99))).alloc (.cells #[.int .i64 x] 3)
        have oA := oS.chg0 D3
        have HS5 := Lib.hid (HS3.out.chg D3 fun k _ e => e.elim)
        have hC3 := HC4.out.step D3
        have sB := (Sl.fresh (size := 1) (w3.alloc (.cells #[.int .i64 right, .bool owner, .int .i64 prob, .int .u16 set, .int .i64 want, .int .u16 wait, .bool held, .int .i64 forget, .int .i64 0] 99)) [.int .i64 x] 3 1 rfl)
        rw [show (w3.alloc (.cells #[.int .i64 right, .bool owner, .int .i64 prob, .int .u16 set, .int .i64 want, .int .u16 wait, .bool held, .int .i64 forget, .int .i64 0] 99)).heap.size = w3.heap.size + 1 by simp] at sB
        have one1 : ∀ u ∈ [Value.int .i64 x], u.oneCell' = true := by simp [Value.oneCell']
        have hfl : ((ks.take i).filter (busyP ps)).length ≤ 1000 := by
          have h1 := List.length_filter_le (busyP ps) (ks.take i)
          have h2 := List.length_take_le i ks
          omega
        have b1 : ((ks.take i).filter (busyP ps)).length + 1 ≤ maxLen := by unfold maxLen; omega
        have b2 : (((ks.take i).filter (busyP ps)).length + 1) * 8 ≤ 140737488355328 := by omega
        have HOB := Lib.hid oA.ownBlock
        have HC3 := Lib.hid hC3
        have HBB := Lib.hid hbb
        obtain ⟨i0, hi0, hz0, hz1, hz2⟩ := info_parts INTi24
        clear C4 oS D3 hC3 hfl hbb
        go_wp2_with (at_builtin; go_must (refine wpList_app rfl _ _ 46 rfl i0 _ 8 Tryz.underlying46 hi0 hz0 hz1 hz2 rfl rfl oA _ 1 _ rfl sB one1 b1 b2 ?_))
        intro v4 w4 o4 g4 _
        have C4 := HC3.out.grown g4 (fun q hq => .inr (HOB.out q hq).1)
        have O4 : Own w4 (fun q => w2.heap.size ≤ q) 3 1 v4 ((ks.take (i + 1)).filter (busyP ps)).length (((ks.take (i + 1)).filter (busyP ps)).map (Value.int .i64)) := by
          rw [List.take_succ_eq_append_getElem (by rw [HKN.out]; exact hi), HX.out, List.filter_append, show [x].filter (busyP ps) = [x] by simp [HBB.out], List.map_append, List.length_append]
          exact o4.mono fun q hq => hq.elim (fun h => (HOB.out q h).1) (fun h => by have := HC3.out.size; simp at h this; omega)
        have HO4 := Lib.hid O4
        have HC5 := Lib.hid C4
        have HS6 := Lib.hid (HS5.out.chg ((Chg.refl (fun k => w2.heap.size ≤ k) _).grown g4 fun q hq => .inl (HOB.out q hq).1) fun k hk e => absurd e (Nat.not_le.2 hk))
        clear o4 g4 oA sB one1 b1 b2 hi0 hz0 hz1 hz2 O4 C4
        go_wp2_with fail
        go_roundg (n - (i + 1))
        case rel => exact ⟨i + 1, v4, by go_num, rfl, by omega, rfl, HO4.out, HC5.out, HS6.out⟩
        case measure => rw [HK.out]; omega
      · have hb3 : (want != 0) = false := by show (!(want == 0)) = false; rw [hb]; rfl
        have hz : want = 0 := by simpa using hb
        have HZ := Lib.hid hz
        clear hz hb
        cases held
        · have hzz := hb3
          have hnb : busyP ps x = false := by rw [HBz.out]; rw [HZ.out]; rfl
          have HS3 := Lib.hid (HS.out.chg C4 fun k _ e => e.elim)
          have o3 := HO.out.chg0 C4
          rw [show (ks.take i).filter (busyP ps) = (ks.take (i + 1)).filter (busyP ps) by rw [List.take_succ_eq_append_getElem (by rw [HKN.out]; exact hi), HX.out, List.filter_append, show [x].filter (busyP ps) = [] by simp [hnb], List.append_nil]] at o3
          have HO3 := Lib.hid o3
          clear o3
          have HC3 := Lib.hid (HC.out.step C4)
          clear hnb C4
          go_wp2_with fail
          go_roundg (n - (i + 1))
          case rel => exact ⟨i + 1, _, by go_num, rfl, by omega, rfl, HO3.out, HC3.out, HS3.out⟩
          case measure => rw [HK.out]; omega
        · have hzz := hb3
          have hbb : busyP ps x = true := by rw [HBz.out]; exact Bool.or_true _
          obtain ⟨pv, cv, hov⟩ := HO.out.form
          subst hov
          have oS := HO.out.chg0 C4
          have HC4 := Lib.hid (HC.out.step C4)
          have HS3 := Lib.hid (HS.out.chg C4 fun k _ e => e.elim)
          have D3 := (Chg.refl NoB (w3.alloc (.cells #[.int .i64 right, .bool owner, .int .i64 prob, .int .u16 set, .int .i64 want, .int .u16 wait, .bool true, .int .i64 forget, .int .i64 0] 99))).alloc (.cells #[.int .i64 x] 3)
          have oA := oS.chg0 D3
          have HS5 := Lib.hid (HS3.out.chg D3 fun k _ e => e.elim)
          have hC3 := HC4.out.step D3
          have sB := (Sl.fresh (size := 1) (w3.alloc (.cells #[.int .i64 right, .bool owner, .int .i64 prob, .int .u16 set, .int .i64 want, .int .u16 wait, .bool true, .int .i64 forget, .int .i64 0] 99)) [.int .i64 x] 3 1 rfl)
          rw [show (w3.alloc (.cells #[.int .i64 right, .bool owner, .int .i64 prob, .int .u16 set, .int .i64 want, .int .u16 wait, .bool true, .int .i64 forget, .int .i64 0] 99)).heap.size = w3.heap.size + 1 by simp] at sB
          have one1 : ∀ u ∈ [Value.int .i64 x], u.oneCell' = true := by simp [Value.oneCell']
          have hfl : ((ks.take i).filter (busyP ps)).length ≤ 1000 := by
            have h1 := List.length_filter_le (busyP ps) (ks.take i)
            have h2 := List.length_take_le i ks
            omega
          have b1 : ((ks.take i).filter (busyP ps)).length + 1 ≤ maxLen := by unfold maxLen; omega
          have b2 : (((ks.take i).filter (busyP ps)).length + 1) * 8 ≤ 140737488355328 := by omega
          have HOB := Lib.hid oA.ownBlock
          have HC3 := Lib.hid hC3
          have HBB := Lib.hid hbb
          obtain ⟨i0, hi0, hz0, hz1, hz2⟩ := info_parts INTi24
          clear C4 oS D3 hC3 hfl hbb
          go_wp2_with (at_builtin; go_must (refine wpList_app rfl _ _ 46 rfl i0 _ 8 Tryz.underlying46 hi0 hz0 hz1 hz2 rfl rfl oA _ 1 _ rfl sB one1 b1 b2 ?_))
          intro v4 w4 o4 g4 _
          have C4 := HC3.out.grown g4 (fun q hq => .inr (HOB.out q hq).1)
          have O4 : Own w4 (fun q => w2.heap.size ≤ q) 3 1 v4 ((ks.take (i + 1)).filter (busyP ps)).length (((ks.take (i + 1)).filter (busyP ps)).map (Value.int .i64)) := by
            rw [List.take_succ_eq_append_getElem (by rw [HKN.out]; exact hi), HX.out, List.filter_append, show [x].filter (busyP ps) = [x] by simp [HBB.out], List.map_append, List.length_append]
            exact o4.mono fun q hq => hq.elim (fun h => (HOB.out q h).1) (fun h => by have := HC3.out.size; simp at h this; omega)
          have HO4 := Lib.hid O4
          have HC5 := Lib.hid C4
          have HS6 := Lib.hid (HS5.out.chg ((Chg.refl (fun k => w2.heap.size ≤ k) _).grown g4 fun q hq => .inl (HOB.out q hq).1) fun k hk e => absurd e (Nat.not_le.2 hk))
          clear o4 g4 oA sB one1 b1 b2 hi0 hz0 hz1 hz2 O4 C4
          go_wp2_with fail
          go_roundg (n - (i + 1))
          case rel => exact ⟨i + 1, v4, by go_num, rfl, by omega, rfl, HO4.out, HC5.out, HS6.out⟩
          case measure => rw [HK.out]; omega
    · have t1 : decide ((i : Int) < n) = false := decide_eq_false (by omega)
      have t2 : decide (i < n) = false := decide_eq_false hi
      have hi' : i = n := by omega
      have h4 := HO.out
      rw [hi', ← HKN.out, List.take_length] at h4
      have HF := Lib.hid (And.intro (HKs.out.filter (busyP ps)) (And.intro (h4.mono (S' := fun k => w.heap.size ≤ k) fun k hk => Nat.le_trans HC2.out.size hk) (HC2.out.step HC.out)))
      clear h4
      clear hS hi'
      go_wp2_with fail
      go_ret
      exact ⟨_, rfl, _, HF.out⟩
end Go.Proofs.YtdjaeoeejcmhdaaGreatDoor
set_option linter.unusedVariables false
set_option linter.unusedSimpArgs false
namespace Go.Proofs.YtdjaeoeejcmhdaaGreatDoor
open Go.RowKit Go.RR
theorem one_of {a : Int} (f : Int → Bool) : ∀ {l : List Int}, l.Nodup → a ∈ l → (∀ x ∈ l, f x = true ↔ x = a) → (l.filter f).length = 1
  | [], _, h, _ => by cases h
  | b :: l, hn, ha, hf => by
    rw [List.nodup_cons] at hn
    by_cases e : b = a
    · subst e
      have hb : f b = true := (hf b List.mem_cons_self).2 rfl
      rw [List.filter_cons_of_pos hb, List.length_cons, List.length_eq_zero_iff.2]
      rw [List.filter_eq_nil_iff]
      intro x hx h2
      have := (hf x (List.mem_cons_of_mem _ hx)).1 h2
      rw [this] at hx
      exact hn.1 hx
    · have hb : ¬ f b = true := fun h => e ((hf b List.mem_cons_self).1 h)
      rw [List.filter_cons_of_neg hb]
      exact one_of f hn.2 ((List.mem_cons.1 ha).resolve_left fun h => e h.symm) fun x hx => hf x (List.mem_cons_of_mem _ hx)
theorem two_le {l : List Int} (hn : l.Nodup) (h : ∀ x ∈ l, 0 ≤ x ∧ x < 2) : l.length ≤ 2 := by
  match l, hn, h with
  | [], _, _ => exact Nat.zero_le _
  | [_], _, _ => show 1 ≤ 2; decide
  | [_, _], _, _ => exact Nat.le_refl _
  | a :: b :: c :: l, hn, h =>
    exfalso
    simp only [List.nodup_cons, List.mem_cons, not_or] at hn
    obtain ⟨⟨h1, h2, -⟩, ⟨h3, -⟩, -⟩ := hn
    have ha := h a (by simp)
    have hb := h b (by simp)
    have hc := h c (by simp)
    omega
theorem ndv_busy {w : World} {F : Nat → Prop} {hb spb me n : Nat} {S : Nat → PgS} {C : Nat → By} (h : NdV w F hb spb me n S C) :
    Calls Tryz.prog 12 #[.pointer (some ⟨hb, 0, none⟩)] w (RetV fun v w' => ∃ l : List Int, Own w' (fun k => w.heap.size ≤ k) 3 1 v l.length (l.map (Value.int .i64)) ∧ ((∀ p : Nat, p < 2 → (S p).busy = false) → l.length = 0) ∧ ((S 0).busy = true → (S 1).busy = false → l.length = 1) ∧ Chg NoB w w') := by
  obtain ⟨SH, L, s, ps, hpb, hH, hS, hV, hap, hF, hps⟩ := h.ex
  have hlen : ps.length ≤ 1000 := by
    have := two_le hH.nk fun x hx => by obtain ⟨p, hp, rfl⟩ := List.mem_map.1 hx; exact hH.kn p hp
    rw [List.length_map] at this
    omega
  refine (hbusy_n hH hlen).mono ?_
  rintro e w' ⟨v, rfl, l, hl, hO, c⟩
  have hb : ∀ q ∈ ps.map (·.1), ∃ p : Nat, p < 2 ∧ q = (p : Int) ∧ busyP ps q = (S p).busy := fun q hq => by
    obtain ⟨x, hx, e⟩ := List.mem_map.1 hq
    have hk := hH.kn x hx
    rw [e] at hk
    refine ⟨q.toNat, by omega, by omega, ?_⟩
    obtain ⟨pb, st, hlk⟩ := look_in hq
    rw [hps q.toNat (by omega)]
    have e2 : ((q.toNat : Nat) : Int) = q := by omega
    unfold busyP pst
    rw [e2, hlk]
  refine ⟨v, rfl, l, hO, fun hz => ?_, fun h0 h1 => ?_, c⟩
  · rw [hl.length_eq, List.length_eq_zero_iff, List.filter_eq_nil_iff]
    intro q hq h2
    obtain ⟨p, hp, -, e⟩ := hb q hq
    rw [e, hz p hp] at h2
    cases h2
  · rw [hl.length_eq]
    have h0m : (0 : Int) ∈ ps.map (·.1) := by
      have e := hps 0 (by decide)
      unfold pst at e
      cases hlk : hLook ps ((0 : Nat) : Int) with
      | some x =>
        have := hLook_mem hlk
        exact List.mem_map.2 ⟨_, this, rfl⟩
      | none =>
        rw [hlk] at e
        dsimp only at e
        rw [e] at h0
        cases h0
    refine one_of (a := 0) _ hH.nk h0m fun x hx => ?_
    obtain ⟨p, hp, e1, e2⟩ := hb x hx
    rw [e2]
    rcases (by omega : p = 0 ∨ p = 1) with rfl | rfl
    · rw [h0]; exact ⟨fun _ => e1, fun _ => rfl⟩
    · rw [h1]; exact ⟨fun h => (by cases h), fun h => by rw [e1] at h; cases h⟩
end Go.Proofs.YtdjaeoeejcmhdaaGreatDoor
set_option linter.unusedVariables false
set_option linter.unusedSimpArgs false
namespace Go.Proofs.YtdjaeoeejcmhdaaGreatDoor
open Go.RowKit Go.RR
/-- So many of the nodes are made. -/
structure HsP (w : World) (i k : Nat) (hb spb : Nat → Nat) (F : Nat → Nat → Prop) (G : Nat → Gs) : Prop where
  nd : ∀ j, j < i → NdV w (F j) (hb j) (spb j) j k (fun p => (G p).st j) (fun p => (G p).ct j)
  ap : ∀ j l, j < i → l < i → j ≠ l → ∀ b, F j b → ¬ F l b
theorem HsP.none (w : World) (k : Nat) (hb spb : Nat → Nat) (F : Nat → Nat → Prop) (G : Nat → Gs) : HsP w 0 k hb spb F G := ⟨fun j hj => by omega, fun j l hj => by omega⟩
theorem HsP.all {w : World} {k : Nat} {hb spb : Nat → Nat} {F : Nat → Nat → Prop} {G : Nat → Gs} (h : HsP w k k hb spb F G) : Hs24 w k hb spb F G := ⟨h.nd, h.ap⟩
theorem HsP.chg0 {w w' : World} {i k : Nat} {hb spb : Nat → Nat} {F : Nat → Nat → Prop} {G : Nat → Gs} (h : HsP w i k hb spb F G) (c : Chg NoB w w') : HsP w' i k hb spb F G := ⟨fun j hj => (h.nd j hj).chg0 c, h.ap⟩
theorem HsP.snoc {w w' : World} {i k : Nat} {hb spb : Nat → Nat} {F : Nat → Nat → Prop} {G : Nat → Gs} (h : HsP w i k hb spb F G) (c : Chg NoB w w') {h' s' : Nat} {F' : Nat → Prop} (hN : NdV w' F' h' s' i k (fun p => (G p).st i) (fun p => (G p).ct i)) (hF : ∀ b, F' b → w.heap.size ≤ b) :
    HsP w' (i + 1) k (updG hb i h') (updG spb i s') (updG F i F') G := by
  refine ⟨fun j hj => ?_, fun j l hj hl hne b h1 h2 => ?_⟩
  · by_cases e : j = i
    · rw [e, updG_at, updG_at, updG_at]; exact hN
    · rw [updG_ne _ _ e, updG_ne _ _ e, updG_ne _ _ e]; exact (h.nd j (by omega)).chg0 c
  · by_cases e1 : j = i
    · have e2 : l ≠ i := fun e => hne (e1.trans e.symm)
      rw [e1, updG_at] at h1
      rw [updG_ne _ _ e2] at h2
      have := hF b h1
      have := (h.nd l (by omega)).lt b h2
      omega
    · rw [updG_ne _ _ e1] at h1
      by_cases e2 : l = i
      · rw [e2, updG_at] at h2
        have := hF b h2
        have := (h.nd j (by omega)).lt b h1
        omega
      · rw [updG_ne _ _ e2] at h2
        exact h.ap j l (by omega) (by omega) hne b h1 h2
/-- All homes, made since w. -/
structure Stg24 (w wi : World) (k : Nat) (hb spb : Nat → Nat) (F : Nat → Nat → Prop) (G : Nat → Gs) : Prop where
  hs : Hs24 wi k hb spb F G
  lo : ∀ b, FAll k F b → w.heap.size ≤ b
  ch : Chg NoB w wi
theorem Stg24.chg0 {w wi w' : World} {k : Nat} {hb spb : Nat → Nat} {F : Nat → Nat → Prop} {G : Nat → Gs} (h : Stg24 w wi k hb spb F G) (c : Chg NoB wi w') : Stg24 w w' k hb spb F G := ⟨h.hs.chg0 c, h.lo, h.ch.step c⟩
theorem Stg24.chg {w wi w' : World} {k : Nat} {hb spb : Nat → Nat} {F : Nat → Nat → Prop} {G : Nat → Gs} {S : Nat → Prop} (h : Stg24 w wi k hb spb F G) (c : Chg S wi w') (hs : ∀ b, FAll k F b → ¬ S b) (hlo : ∀ b, S b → w.heap.size ≤ b) : Stg24 w w' k hb spb F G :=
  ⟨h.hs.chg c hs, h.lo, h.ch.trans c fun b hb1 hb2 => absurd (hlo b hb2) (by omega)⟩
theorem Stg24.post {w wi w' : World} {k : Nat} {hb spb : Nat → Nat} {F : Nat → Nat → Prop} {G G' : Nat → Gs} (h : Stg24 w wi k hb spb F G) (p : Hs24Post wi k hb spb F G' w') : ∃ F', Stg24 w w' k hb spb F' G' ∧ (∀ b, FAll k F' b → FAll k F b ∨ wi.heap.size ≤ b) ∧ Chg (FAll k F) wi w' := by
  obtain ⟨F', hs, hF, c⟩ := p
  exact ⟨F', ⟨hs, fun b hb => (hF b hb).elim (h.lo b) fun e => Nat.le_trans h.ch.size e, h.ch.trans c fun b hb1 hb2 => absurd (h.lo b hb2) (by omega)⟩, hF, c⟩
theorem Stg24.posts {w wi w' : World} {k : Nat} {hb spb : Nat → Nat} {F : Nat → Nat → Prop} {G G' : Nat → Gs} {p : Nat} {q : List Po} {r : Value} (h : Stg24 w wi k hb spb F G) (P : Hs24Posts wi k hb spb F G' p q r w') :
    ∃ (F' : Nat → Nat → Prop) (SP : Nat → Prop), Stg24 w w' k hb spb F' G' ∧ PosAt w' SP r p q ∧ (∀ b, SP b → wi.heap.size ≤ b ∧ b < w'.heap.size ∧ ¬ FAll k F' b) ∧ (∀ b, FAll k F' b → FAll k F b ∨ wi.heap.size ≤ b) ∧ Chg (FAll k F) wi w' := by
  obtain ⟨F', SP, hs, hp, hF, hSP, c⟩ := P
  exact ⟨F', SP, ⟨hs, fun b hb => (hF b hb).elim (h.lo b) fun e => Nat.le_trans h.ch.size e, h.ch.trans c fun b hb1 hb2 => absurd (h.lo b hb2) (by omega)⟩, hp, hSP, hF, c⟩
theorem Stg24.tz {w wi : World} {k : Nat} {hb spb : Nat → Nat} {F : Nat → Nat → Prop} {G : Nat → Gs} (h : Stg24 w wi k hb spb F G) (L : Tz24 w) : Tz24 wi := L.chg0 h.ch
theorem Stg24.db {w wi : World} {k : Nat} {hb spb : Nat → Nat} {F : Nat → Nat → Prop} {G : Nat → Gs} (h : Stg24 w wi k hb spb F G) (L : Tz24 w) : ¬ FAll k F 0 := fun e => by
  have h1 := h.lo _ e
  have h2 := World.block_lt_of_cell? w _ L.c0
  have h3 : 0 < w.heap.size := h2
  omega
/-- The first of some posts: its message. -/
theorem PosAt.one {w : World} {S : Nat → Prop} {v : Value} {num : Int} {x : Po} (h : PosAt w S v num [x]) :
    ∃ (g off cap : Nat) (dp : Option Addr) (dn dc : Nat), v = .slice (some ⟨g, off, none⟩) 1 cap ∧ g < w.heap.size ∧ S g ∧ (∀ j u, (poC num (x, .slice dp dn dc))[j]? = some u → w.cell? ⟨g, off + j, none⟩ = some u) ∧ DatW w S (.slice dp dn dc) x.data := by
  obtain ⟨g, off, cap, dv, l, e, hl, hg, hS, hc, -, hd, -, -⟩ := h.head
  obtain ⟨dp, dn, dc, rfl⟩ := hd.form
  rw [List.map_eq_nil_iff] at hl
  subst hl
  exact ⟨g, off, cap, dp, dn, dc, e, hg, hS, hc, hd⟩
end Go.Proofs.YtdjaeoeejcmhdaaGreatDoor
set_option linter.unusedVariables false
set_option linter.unusedSimpArgs false
namespace Go.Proofs.YtdjaeoeejcmhdaaGreatDoor
open Go.RowKit Go.RR
def MadeP (i : Nat) (w' : World) (v : Value) (w'' : World) : Prop := ∃ (h s : Nat) (F : Nat → Prop), v = .tuple #[(.pointer (some ⟨s, 0, none⟩)), (.pointer (some ⟨h, 0, none⟩)), .int .i64 0] ∧ NdV w'' F h s i 2 (fun p => (G024 2 p).st i) (fun p => (G024 2 p).ct i) ∧ (∀ k, F k → w'.heap.size ≤ k) ∧ Chg NoB w' w''
set_option maxHeartbeats 4000000 in
set_option maxRecDepth 100000 in
theorem first24_any {w : World} (L : Tz24 w) : Calls Tryz.prog 4 #[] w (RetW (.bool true) fun w' => Chg NoB w w') := by
  have HM0 : Hid (∀ w', Calls Tryz.prog 5 #[.int .i64 0, .int .i64 2, .int .i64 2] w' (RetV (MadeP 0 w'))) := Lib.hid fun w' => made24 0 2 (by omega) (by omega) (by omega) w'
  have HM1 : Hid (∀ w', Calls Tryz.prog 5 #[.int .i64 1, .int .i64 2, .int .i64 2] w' (RetV (MadeP 1 w'))) := Lib.hid fun w' => made24 1 2 (by omega) (by omega) (by omega) w'
  have HL := Lib.hid L
  clear L
  go_enter Tryz.func4, Tryz.ntmps4
  go_wp2_with fail
  refine (HM0.out _).mono ?_
  rintro e w1 ⟨v, rfl, h0, s0, F0, rfl, hN0, hF0, C1⟩
  have HP1 := Lib.hid ((HsP.none w 2 (fun _ => 0) (fun _ => 0) (fun _ _ => False) (G024 2)).snoc C1 hN0 hF0)
  have HC1 := Lib.hid (And.intro hF0 C1)
  clear hN0 hF0 C1 HM0
  go_wp2_with fail
  refine (HM1.out _).mono ?_
  rintro e w2 ⟨v, rfl, h1, s1, F1, rfl, hN1, hF1, C2⟩
  obtain ⟨hb, spb, F, HS2, e0, e1, e2, e3⟩ : ∃ (hb spb : Nat → Nat) (F : Nat → Nat → Prop), Hid (Stg24 w w2 2 hb spb F (G024 2)) ∧ hb 0 = h0 ∧ hb 1 = h1 ∧ spb 0 = s0 ∧ spb 1 = s1 := by
    refine ⟨_, _, _, Lib.hid ⟨(HP1.out.snoc C2 hN1 hF1).all, fun b hb => ?_, HC1.out.2.step C2⟩, rfl, rfl, rfl, rfl⟩
    obtain ⟨i, hi, hb⟩ := hb
    rcases (by omega : i = 0 ∨ i = 1) with rfl | rfl
    · exact HC1.out.1 b hb
    · exact Nat.le_trans HC1.out.2.size (hF1 b hb)
  subst e0 e1 e2 e3
  have f0 := Lib.hid fst_start
  clear hN1 hF1 C2 HP1 HC1 HM1
  go_wp2_with fail
  obtain ⟨G1, f1, HT⟩ : ∃ G1, Hid (Fst G1 fa1 fb0 (fun _ => 0) (fun _ => 0)) ∧ Hid (Calls Tryz.prog 6 #[(.pointer (some ⟨hb 0, 0, none⟩)), .int .u64 1073741832, .int .i64 2] w2 (RetV fun v w' => ∃ r, v = .tuple #[r, .int .i64 0] ∧ Hs24Posts w2 2 hb spb F G1 0 [] r w')) := by
    have f := f0.out
    have h := hs_fault2 HS2.out.hs (by omega) (by omega) (p := 0) (o := 8) (i := 0) (va := 1073741832) (by omega) (by omega) rfl (by omega) (by rw [f.a]; rfl) (by rw [f.a]; exact ⟨by decide, by decide⟩) (HS2.out.tz HL.out) (HS2.out.db HL.out)
    rw [(fst_want0 f).2] at h
    exact ⟨_, Lib.hid (fst_want0 f).1, Lib.hid h⟩
  clear f0
  refine HT.out.mono ?_
  rintro e w3 ⟨v, rfl, r, rfl, P⟩
  obtain ⟨F3, SP3, hS3, hp3, hSP3, hF3, c3⟩ := HS2.out.posts P
  obtain ⟨lp, lc, rfl⟩ := hp3.empty
  have HS3 := Lib.hid hS3
  clear P hS3 hp3 hSP3 hF3 c3 HT HS2
  have HX : Hid (∃ ub : Nat, (∀ w', Chg NoB w3 w' → Calls Tryz.prog 8 #[(.pointer (some ⟨spb 0, 0, none⟩))] w' (RetW (.pointer (some ⟨ub, 0, none⟩)) fun w'' => w'' = w')) ∧ ∃ G2, Fst G2 fa1 fb0 fc1 (fun _ => 0) ∧ 
      ∀ w', Chg NoB w3 w' → Calls Tryz.prog 9 #[(.pointer (some ⟨ub, 0, none⟩)), .int .u64 1073741832, .int .i64 8, .int .u64 7, .int .i64 0] w' (RetW (.int .i64 (-1)) fun w'' => Hs24Post w' 2 hb spb F3 G2 w'')) := Lib.hid (by
    have f := f1.out
    obtain ⟨ub, x1, x2⟩ := hs_store HS3.out.hs (p := 0) (o := 8) (i := 0) (va := 1073741832) (by omega) (by omega) (by omega) (by omega) (by rw [f.a]; rfl) 7 (by omega) rfl
    exact ⟨ub, x1, _, fst_store f, x2⟩)
  obtain ⟨ub, x1, G2, f2, x2⟩ := HX.out
  have HU := Lib.hid (x1 w3 (Chg.refl NoB w3))
  have HW := Lib.hid (x2 w3 (Chg.refl NoB w3))
  have f2 := Lib.hid f2
  clear x1 x2 HX f1
  go_wp2_with fail
  refine HU.out.mono ?_
  rintro e w' ⟨rfl, hw⟩
  subst hw
  go_wp2_with fail
  refine HW.out.mono ?_
  rintro e w4 ⟨rfl, P⟩
  obtain ⟨F4, hS4, -, -⟩ := HS3.out.post P
  have HS4 := Lib.hid hS4
  clear P hS4 HW HU HS3
  obtain ⟨G3, f3, HD⟩ : ∃ G3, Hid (Fst G3 fa2 fb0 fc1 (fun _ => 0)) ∧ Hid (Calls Tryz.prog 11 #[(.pointer (some ⟨hb 0, 0, none⟩)), .int .i64 0] w4 (RetV fun r w' => Hs24Posts w4 2 hb spb F4 G3 0 [] r w')) := by
    have f := f2.out
    have h := hs_done HS4.out.hs (by omega) (by omega) (p := 0) (i := 0) (by omega) (by omega) (by rw [f.a]; decide) noB
    rw [(fst_done f).2] at h
    exact ⟨_, Lib.hid (fst_done f).1, Lib.hid h⟩
  clear f2
  go_wp2_with fail
  refine HD.out.mono ?_
  rintro e w5 ⟨r, rfl, P⟩
  obtain ⟨F5, SP5, hS5, hp5, -, -, -⟩ := HS4.out.posts P
  obtain ⟨lp5, lc5, rfl⟩ := hp5.empty
  have HS5 := Lib.hid hS5
  clear P hS5 hp5 HD HS4
  obtain ⟨G4, f4, HT⟩ : ∃ G4, Hid (Fst G4 fa2 fb1 fc1 (fun _ => 0)) ∧ Hid (Calls Tryz.prog 6 #[(.pointer (some ⟨hb 1, 0, none⟩)), .int .u64 1073741832, .int .i64 1] w5 (RetV fun v w' => ∃ r, v = .tuple #[r, .int .i64 0] ∧ Hs24Posts w5 2 hb spb F5 G4 0 [⟨0, ⟨1, 1, 0, 0⟩, none⟩] r w')) := by
    have f := f3.out
    have h := hs_fault1 HS5.out.hs (by omega) (by omega) (p := 0) (o := 8) (i := 1) (va := 1073741832) (by omega) (by omega) rfl (by omega) (by rw [f.b]; rfl) (by rw [f.b]; exact ⟨by decide, by decide⟩) (HS5.out.tz HL.out) (HS5.out.db HL.out)
    rw [(fst_want1 f).2] at h
    exact ⟨_, Lib.hid (fst_want1 f).1, Lib.hid h⟩
  clear f3
  go_wp2_with fail
  refine HT.out.mono ?_
  rintro e w6 ⟨v, rfl, r, rfl, P⟩
  obtain ⟨F6, SP6, hS6, hp6, hSP6, -, -⟩ := HS5.out.posts P
  obtain ⟨g6, o6, k6, dp6, dn6, dc6, rfl, hg6, -, hc6, hd6⟩ := hp6.one
  have HS6 := Lib.hid hS6
  have x0 : w6.cell? ⟨g6, o6, none⟩ = some (.int .i64 0) := hc6 0 _ rfl
  have x1 : w6.cell? ⟨g6, o6 + 1, none⟩ = some (.int .i64 1) := hc6 1 _ rfl
  have x2 : w6.cell? ⟨g6, o6 + 2, none⟩ = some (.int .i64 0) := hc6 2 _ rfl
  have x3 : w6.cell? ⟨g6, o6 + 3, none⟩ = some (.int .i64 1) := hc6 3 _ rfl
  have x4 : w6.cell? ⟨g6, o6 + 4, none⟩ = some (.int .i64 0) := hc6 4 _ rfl
  have x5 : w6.cell? ⟨g6, o6 + 5, none⟩ = some (.int .u16 0) := hc6 5 _ rfl
  have x6 : w6.cell? ⟨g6, o6 + 6, none⟩ = some (.slice dp6 dn6 dc6) := hc6 6 _ rfl
  obtain ⟨G5, f5, HK⟩ : ∃ G5, Hid (Fst G5 fa3 fb1 fc1 (fun _ => 0)) ∧ Hid (Calls Tryz.prog 13 #[(.pointer (some ⟨hb 0, 0, none⟩)), .agg #[.int .i64 1, .int .i64 0, .int .i64 1, .int .i64 0, .int .u16 0, .slice dp6 dn6 dc6]] w6 (RetV fun r w' => Hs24Posts w6 2 hb spb F6 G5 0 [⟨1, ⟨3, 0, 0, 0⟩, some fc1⟩] r w')) := by
    have f := f4.out
    obtain ⟨y1, y2, y3, y4⟩ := fst_take0 f
    have h := hs_take HS6.out.hs (by omega) (by omega) (p := 0) (by omega) y3 y4 hd6 (fun b hb => (hSP6 b hb).2.2) (HS6.out.tz HL.out) (HS6.out.db HL.out) (i := 0) rfl
    rw [y2] at h
    exact ⟨_, Lib.hid y1, Lib.hid h⟩
  clear P hS6 hp6 hSP6 hc6 hd6 HT HS5 f4
  go_wp2_with fail
  refine HK.out.mono ?_
  rintro e w7 ⟨r, rfl, P⟩
  obtain ⟨F7, SP7, hS7, hp7, hSP7, -, -⟩ := HS6.out.posts P
  obtain ⟨g7, o7, k7, dp7, dn7, dc7, rfl, hg7, -, hc7, hd7⟩ := hp7.one
  obtain rfl : dn7 = 9 := by
    have h := hd7.1.form
    obtain ⟨p', c', e⟩ := h
    cases e
    exact fc1_trim
  have HS7 := Lib.hid hS7
  clear x0 x1 x2 x3 x4 x5 x6 hg6
  have x0 : w7.cell? ⟨g7, o7, none⟩ = some (.int .i64 1) := hc7 0 _ rfl
  have x1 : w7.cell? ⟨g7, o7 + 1, none⟩ = some (.int .i64 3) := hc7 1 _ rfl
  have x2 : w7.cell? ⟨g7, o7 + 2, none⟩ = some (.int .i64 0) := hc7 2 _ rfl
  have x3 : w7.cell? ⟨g7, o7 + 3, none⟩ = some (.int .i64 0) := hc7 3 _ rfl
  have x4 : w7.cell? ⟨g7, o7 + 4, none⟩ = some (.int .i64 0) := hc7 4 _ rfl
  have x5 : w7.cell? ⟨g7, o7 + 5, none⟩ = some (.int .u16 0) := hc7 5 _ rfl
  have x6 : w7.cell? ⟨g7, o7 + 6, none⟩ = some (.slice dp7 9 dc7) := hc7 6 _ rfl
  obtain ⟨G6, f6, HK2⟩ : ∃ G6, Hid (Fst G6 fa3 fb2 fc1 fc1) ∧ Hid (Calls Tryz.prog 13 #[(.pointer (some ⟨hb 1, 0, none⟩)), .agg #[.int .i64 3, .int .i64 0, .int .i64 0, .int .i64 0, .int .u16 0, .slice dp7 9 dc7]] w7 (RetV fun r w' => ∃ q, Hs24Posts w7 2 hb spb F7 G6 0 q r w')) := by
    have f := f5.out
    obtain ⟨y1, y3, y4⟩ := fst_take1 f (c := fc1)
    have h := hs_take HS7.out.hs (by omega) (by omega) (p := 0) (by omega) y3 y4 hd7 (fun b hb => (hSP7 b hb).2.2) (HS7.out.tz HL.out) (HS7.out.db HL.out) (i := 1) rfl
    refine ⟨_, Lib.hid y1, Lib.hid (h.mono ?_)⟩
    rintro e w' ⟨r, rfl, P⟩
    exact ⟨r, rfl, _, P⟩
  clear P hS7 hp7 hSP7 hc7 hd7 HK HS6 f5
  go_wp2_with fail
  refine HK2.out.mono ?_
  rintro e w8 ⟨r, rfl, q8, P⟩
  obtain ⟨F8, SP8, hS8, -, -, -, -⟩ := HS7.out.posts P
  have HS8 := Lib.hid hS8
  clear x0 x1 x2 x3 x4 x5 x6 hg7 P hS8 HK2 HS7
  have HX : Hid (∃ ub : Nat, (∀ w', Chg NoB w8 w' → Calls Tryz.prog 8 #[(.pointer (some ⟨spb 1, 0, none⟩))] w' (RetW (.pointer (some ⟨ub, 0, none⟩)) fun w'' => w'' = w')) ∧
      ∀ w', Chg NoB w8 w' → Calls Tryz.prog 10 #[(.pointer (some ⟨ub, 0, none⟩)), .int .u64 1073741832, .int .i64 8, .int .i64 0] w' (RetW (.tuple #[.int .u64 7, .int .i64 (-1)]) fun w'' => Hs24Post w' 2 hb spb F8 G6 w'')) := Lib.hid (by
    have f := f6.out
    obtain ⟨ub, x1, x2⟩ := hs_load HS8.out.hs (p := 0) (o := 8) (i := 1) (va := 1073741832) (by omega) (by omega) (by omega) (by omega) (by rw [f.b]; decide) rfl
    rw [f.c1, fc1_get] at x2
    exact ⟨ub, x1, x2⟩)
  obtain ⟨ub8, x1, x2⟩ := HX.out
  have HU := Lib.hid (x1 w8 (Chg.refl NoB w8))
  have HW := Lib.hid (x2 w8 (Chg.refl NoB w8))
  clear x1 x2 HX
  go_wp2_with fail
  refine HU.out.mono ?_
  rintro e w' ⟨rfl, hw⟩
  subst hw
  go_wp2_with fail
  refine HW.out.mono ?_
  rintro e w9 ⟨rfl, P⟩
  obtain ⟨F9, hS9, -, -⟩ := HS8.out.post P
  have HS9 := Lib.hid hS9
  clear P hS9 HW HU HS8
  have HR : Hid (Calls Tryz.prog 14 #[(.pointer (some ⟨spb 0, 0, none⟩)), .int .i64 0] w9 (RetW (.int .i64 1) fun w' => w' = w9)) := Lib.hid (by
    have h := hs_right HS9.out.hs (p := 0) (i := 0) (by omega) (by omega)
    rw [f6.out.a] at h
    exact h)
  go_wp2_with fail
  refine HR.out.mono ?_
  rintro e w' ⟨rfl, hw⟩
  subst hw
  have HB : Hid (Calls Tryz.prog 12 #[(.pointer (some ⟨hb 1, 0, none⟩))] w' (RetV fun v w'' => (∃ p c, v = .slice p 1 c) ∧ Chg NoB w' w'')) := Lib.hid (by
    refine (ndv_busy (HS9.out.hs.nd 1 (by omega))).mono ?_
    rintro e w'' ⟨v, rfl, l, hO, -, h1, c⟩
    have e1 : l.length = 1 := h1 (by show ((G6 0).st 1).busy = true; rw [f6.out.b]; rfl) f6.out.z
    rw [e1] at hO
    exact ⟨v, rfl, hO.form, c⟩)
  go_wp2_with fail
  refine HB.out.mono ?_
  rintro e w10 ⟨v, rfl, ⟨bp, bc, rfl⟩, C10⟩
  have HC := Lib.hid (HS9.out.ch.step C10)
  clear C10 HB HR HS9 f6
  go_wp2_with fail
  go_ret
  exact ⟨rfl, HC.out⟩
end Go.Proofs.YtdjaeoeejcmhdaaGreatDoor
