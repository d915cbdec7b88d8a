/- The reference's Take of the very number that is waited for. -/
import Derived.Test.YtokigldggkkbcaaRecvRef
set_option linter.unusedVariables false
namespace Go.Proofs.Ytokigldggkkbcaa
open Go.RowKit Go.RR

/-- Numbers apart. -/
def KD : Early → Prop
  | [] => True
  | p :: e => efind e p.1 = none ∧ KD e
def eout (e : Early) (a : Int) : Early := e.filter fun p => p.1 != a
theorem eout_none : ∀ {e : Early} {a : Int}, efind e a = none → eout e a = e
  | [], _, _ => rfl
  | p :: e, a, h => by
    by_cases hp : p.1 = a
    · simp [efind, hp] at h
    · simp only [efind, if_neg hp] at h
      have hb : (p.1 != a) = true := by simp [hp]
      simp only [eout, List.filter_cons, hb, if_true]
      congr 1
      exact eout_none h
theorem eout_drop : ∀ {e : Early} {a : Int}, KD e → eout e a = edrop e a
  | [], _, _ => rfl
  | p :: e, a, h => by
    by_cases hp : p.1 = a
    · subst hp
      have hb : (p.1 != p.1) = false := by simp
      simp only [eout, List.filter_cons, hb, edrop, if_true]
      exact eout_none h.1
    · have hb : (p.1 != a) = true := by simp [hp]
      simp only [eout, List.filter_cons, hb, edrop, if_neg hp, if_true]
      congr 1
      exact eout_drop h.2
theorem efind_edrop {b a : Int} : ∀ {e : Early}, efind e b = none → efind (edrop e a) b = none
  | [], _ => rfl
  | p :: e, h => by
    by_cases hp : p.1 = b
    · simp [efind, hp] at h
    · simp only [efind, if_neg hp] at h
      by_cases ha : p.1 = a
      · simpa [edrop, ha] using h
      · simp [edrop, ha, efind, hp, efind_edrop h]
theorem KD.drop {a : Int} : ∀ {e : Early}, KD e → KD (edrop e a)
  | [], _ => trivial
  | p :: e, h => by
    by_cases ha : p.1 = a
    · simpa [edrop, ha] using h.2
    · simp only [edrop, if_neg ha]
      exact ⟨efind_edrop h.1, h.2.drop⟩
theorem mem_edrop {a : Int} {q : Int × ByteArray} : ∀ {e : Early}, q ∈ edrop e a → q ∈ e
  | [], h => h
  | p :: e, h => by
    by_cases ha : p.1 = a
    · simp only [edrop, if_pos ha] at h; exact List.mem_cons_of_mem _ h
    · simp only [edrop, if_neg ha] at h
      rcases List.mem_cons.1 h with rfl | h
      · exact List.mem_cons_self
      · exact List.mem_cons_of_mem _ (mem_edrop h)

/-- Within the call: the reference's receiver in block b, its list in old memory (S) or in the call's own under tag 3; what is told so far under tag 1. -/
def Mid (S : Nat → Prop) (w0 w : World) (b : Nat) (room n : Int) (e : Early) (q : Value) (o : List ByteArray) : Prop :=
  ∃ (t : Nat → Nat) (v : Value), Blk w b #[.int .i64 room, .int .u64 n, v] 39 ∧ Sl w (fun k => ((S k ∧ k ≠ b) ∧ k < w0.heap.size) ∨ Tg t 3 w0.heap.size w k) 2 v e.length (ecells e) ∧ Own w (Tg t 1 w0.heap.size w) 9 1 q o.length (o.map Value.string) ∧ Chg (· = b) w0 w

set_option maxHeartbeats 4000000 in
set_option maxRecDepth 100000 in
theorem refTakeNow (S : Nat → Prop) (w : World) (b : Nat) (room next : Int) (e : Early) (s : ByteArray) (h : RefR S w b room next e) (hl : e.length ≤ 1000000) (hr : ∀ p ∈ e, 0 ≤ p.1 ∧ p.1 ≤ 18446744073709551615) (r0 : 0 ≤ room) (r1 : room ≤ 64) (n0 : 0 ≤ next) (n1 : next + e.length ≤ 900000)
    (hf : efind e next = none) (kd : KD e) (outs : List ByteArray) (n2 : Int) (e2 : Early) (hfo : follow e.length (next + 1) e = (outs, n2, e2)) :
    Calls Try.prog 20 #[.pointer (some ⟨b, 0, none⟩), .int .u64 next, .string s] w (RetV fun r w' => ∃ q, r = .tuple #[q, .bool true] ∧ RefR (Grow S w) w' b room n2 e2 ∧ Chg S w w' ∧ Sl w' (fun k => w.heap.size ≤ k) 1 q (outs.length + 1) ((s :: outs).map Value.string)) := by
  obtain ⟨i0, hi0, hz0, hz1, hz2⟩ := info_parts ETinfo
  obtain ⟨j0, hj0, hjz0, hjz1, hjz2⟩ := info_parts SSinfo
  have h' := h
  obtain ⟨v, h1, hB, hv⟩ := h
  have e1 : w.cell? ⟨b, 1, none⟩ = some (.int .u64 next) := hB.cell' (i := 1) (by rfl)
  have HB := Lib.hid hB
  have HV := Lib.hid hv
  have hbl := hB.lt
  have HF := Lib.hid hf
  clear hB hv
  go_enter Try.func20, Try.ntmps20
  go_wp2_with fail
  refine (refHas S w b room next next e h' hl hr).mono ?_
  rintro e w1 ⟨_, rfl, rfl, C1⟩
  rw [hf]
  have k1 := C1.cell e1 id
  have k1l : b < w1.heap.size := (C1.blk0 HB.out).lt
  have k1f := (C1.blk0 HB.out).frozen 1
  clear e1 hf
  go_wp2_with fail
  have hM : Mid S w ((w1.setCell ⟨b, 1, none⟩ (.int .u64 (next + 1))).alloc (.cells #[.string s] 9)) b room (next + 1) e (.slice (some ⟨w1.heap.size, 0, none⟩) 1 1) [s] := by
    have hH := C1.size
    refine ⟨fun _ => 1, v, ((C1.blk0 HB.out).set 1 _).alloc _, ?_, ?_, ?_⟩
    · exact (((HV.out.monoIn (S' := fun k => ((S k ∧ k ≠ b) ∧ k < w.heap.size)) (fun k hk h => ⟨h, hk⟩)).chg0 C1).chg (((Chg.refl (· = b) w1).setCell (a := ⟨b, 1, none⟩) (.inl rfl) (.int .u64 (next + 1))).alloc (.cells #[.string s] 9)) (fun k hk => hk.1.2)).mono fun k hk => .inl hk
    · have := Own.fresh (size := 1) (w1.setCell ⟨b, 1, none⟩ (.int .u64 (next + 1))) [.string s] 9 1 rfl (by unfold maxLen; omega)
      rw [World.size_setCell] at this
      exact this.mono fun k hk => ⟨rfl, by omega, by simp; omega⟩
    · exact ((C1.mono (S' := (· = b)) fun _ _ h => h.elim).setCell (a := ⟨b, 1, none⟩) (.inl rfl) _).alloc _
  generalize hw3 : World.alloc _ _ = w3 at *
  have HFO := Lib.hid hfo
  have HKD := Lib.hid kd
  clear hw3 C1 k1 k1l k1f h' hfo kd
  go_loopg [10] e.length (fun m q wr => ∃ (o : List ByteArray) (n1 : Int) (e1 : Early), e1.length = m ∧ o.length + m = e.length + 1 ∧ n1 = next + o.length ∧ KD e1 ∧ (∀ p ∈ e1, 0 ≤ p.1 ∧ p.1 ≤ 18446744073709551615) ∧
    s :: outs = o ++ (follow e1.length n1 e1).1 ∧ (n2, e2) = (follow e1.length n1 e1).2 ∧ Mid S w wr b room n1 e1 q o)
  case atStart => exact ⟨[s], next + 1, e, rfl, by simp; omega, by simp, HKD.out, hr, by rw [HFO.out]; rfl, by rw [HFO.out], hM⟩
  case round =>
    obtain ⟨o, n1', e1, he1, hoe, hn1, kd1, hr1, hout, hrest, hM1⟩ := hrel
    clear hM HB HV HF HFO HKD hr
    have HL := Lib.hid he1
    have HOE := Lib.hid hoe
    have HN := Lib.hid hn1
    have HKD := Lib.hid kd1
    have HOUT := Lib.hid hout
    have HR := Lib.hid hrest
    have hn10 : 0 ≤ n1' := by omega
    have hn11 : n1' ≤ 1000001 := by omega
    have hl1 : e1.length ≤ 1000000 := by omega
    clear he1 hoe hn1 kd1 hout hrest
    obtain ⟨t, v1, hB, hV, hO, hC⟩ := hM1
    have hRR : RefR (fun k => S k ∨ w.heap.size ≤ k) wr b room n1' e1 := ⟨v1, .inl h1, hB, hV.mono fun k hk => hk.elim (fun h => ⟨.inl h.1.1, h.1.2⟩) (fun h => ⟨.inr h.2.1, by have := h.2.1; omega⟩)⟩
    have m1 : wr.cell? ⟨b, 1, none⟩ = some (.int .u64 n1') := hB.cell' (i := 1) (by rfl)
    have HB := Lib.hid hB
    have HV := Lib.hid hV
    have HO := Lib.hid hO
    clear hB hV hO
    go_wp2_with fail
    refine (refHas _ wr b room n1' n1' e1 hRR hl1 hr1).mono ?_
    rintro e w4 ⟨_, rfl, rfl, C4⟩
    cases hfi : efind e1 n1' with
    | none =>
      simp only [Option.getD_none, Option.isSome_none]
      have hfn := follow_none hfi e1.length
      have a1 := HOUT.out
      have a2 := HR.out
      rw [hfn, List.append_nil] at a1
      rw [hfn] at a2
      have HA1 := Lib.hid a1
      have HA2 := Lib.hid a2
      clear hfn a1 a2 hfi
      go_wp2
      go_ret2
      have hbH : b < w.heap.size := hbl
      have hs3 := HO.out.sl.chg0 C4
      rw [← HA1.out] at hs3
      obtain ⟨rfl, rfl⟩ := Prod.mk.inj HA2.out
      exact ⟨_, rfl, _, rfl, ⟨v1, .inl h1, C4.blk0 HB.out, (HV.out.chg0 C4).mono fun k hk => hk.elim (fun h => ⟨.inl h.1.1, h.1.2⟩) (fun h => ⟨.inr h.2.1, by have := h.2.1; omega⟩)⟩, (hC.mono fun k _ h => h ▸ h1).then0 C4, hs3.mono fun k h => h.2.1⟩
    | some s1 =>
      simp only [Option.getD_some, Option.isSome_some]
      have HFI := Lib.hid hfi
      have hlen := edrop_len hfi
      have HLEN := Lib.hid hlen
      have hel : 0 < e1.length := by omega
      have ho1 : o.length ≤ 1000000 := by have := HOE.out; omega
      have hO4 := HO.out.chg0 C4
      have A4 := (Chg.refl NoB w4).alloc (.cells #[.string s1] 9)
      have oA := hO4.chg0 A4
      have sA : Sl (w4.alloc (.cells #[.string s1] 9)) _ 1 (.slice (some ⟨w4.heap.size, 0, none⟩) 1 1) 1 [.string s1] := Sl.fresh w4 [.string s1] 9 1 rfl
      have b1 : o.length + 1 ≤ maxLen := by unfold maxLen; omega
      have b2 : (o.length + 1) * 16 ≤ 140737488355328 := by omega
      have one : ∀ u ∈ [Value.string s1], u.oneCell' = true := by simp [Value.oneCell']
      clear hfi hlen hO4 m1 hRR
      go_wp2_with (at_builtin; go_must (refine wpList_app rfl _ _ 42 rfl j0 _ 16 Try.underlying42 hj0 hjz0 hjz1 hjz2 rfl rfl oA _ 1 _ rfl sA one b1 b2 ?_))
      intro v5 w5 o5 g5 _
      have hHr : w.heap.size ≤ wr.heap.size := hC.size
      have hH4 : wr.heap.size ≤ w4.heap.size := C4.size
      have hOB := (HO.out.chg0 C4).ownBlock
      have C5 : Chg (Tg t 1 w.heap.size wr) w4 w5 := (A4.mono (S' := Tg t 1 w.heap.size wr) fun _ _ h => h.elim).grown g5 (fun k hk => .inl (hOB k hk).1)
      have hH5 : w4.heap.size ≤ w5.heap.size := C5.size
      replace o5 : Own w5 (Tg (tup t 1 w4.heap.size) 1 w.heap.size w5) 9 1 v5 (o.length + 1) ((o ++ [s1]).map Value.string) := by
        have := o5.monoIn (S' := Tg (tup t 1 w4.heap.size) 1 w.heap.size w5) (fun k hk h => h.elim (fun h => ((hOB k h).1.more hH4).keep hH5) (fun h => Tg.fresh (by omega) hk (by rw [h]; simp)))
        simpa using this
      have hV5 := (HV.out.chg0 C4).chg C5 (fun k hk h => hk.elim (fun q => h.old q.2) (Tg.apart (by decide) h))
      have hB5 := C5.blk (C4.blk0 HB.out) (fun h => h.old hbl)
      have hC5 : Chg (· = b) w w5 := (hC.then0 C4).trans C5 (fun k hk h => (h.old hk).elim)
      have HV5 := Lib.hid hV5
      have HB5 := Lib.hid hB5
      have HO5 := Lib.hid o5
      have HC5 := Lib.hid hC5
      have hbl5 := hB5.lt
      have mv : w5.cell? ⟨b, 2, none⟩ = some v1 := hB5.cell' (i := 2) (by rfl)
      obtain ⟨-, p1, cap1, rfl, -, hc1⟩ := hV5
      clear oA sA b1 b2 one g5 A4 hB5 o5 hC5 hC hOB C5
      go_wp2_with fail
      go_loopg [13, 93] e1.length (fun m l ix wr => ∃ k : Nat, k + m = e1.length ∧ ix = .int .i64 k ∧ Own wr (fun j => w5.heap.size ≤ j) 116 2 l (eout (e1.take k) n1').length (ecells (eout (e1.take k) n1')) ∧ Chg NoB w5 wr)
      case atStart => exact ⟨0, by omega, rfl, Own.nil _ _ _ _, Chg.refl _ _⟩
      case round =>
        obtain ⟨k, hk, rfl, hO6, C6⟩ := hrel
        have HK := Lib.hid hk
        have hkl : k ≤ e1.length := by omega
        have HO6 := Lib.hid hO6
        clear hk hO6 mv
        by_cases hlt : k < e1.length
        · obtain ⟨g, off, rfl, -, hg, q⟩ := hc1 (by omega)
          obtain ⟨⟨xa, xs⟩, hx⟩ : ∃ x, e1[k]? = some x := ⟨e1[k], by simp [hlt]⟩
          obtain ⟨a1, a2⟩ := ecells_at e1 k _ hx
          have c1 := C6.cell (q _ _ a1) id
          have c2 := C6.cell (q _ _ a2) id
          rw [← Nat.add_assoc] at c2
          have hgl : g < wr.heap.size := Nat.lt_of_lt_of_le hg C6.size
          have l0 : (0 : Int) ≤ k := by omega
          have l1 : (k : Int) < e1.length := by omega
          have hb6 := C6.blk0 HB5.out
          have mn : wr.cell? ⟨b, 1, none⟩ = some (.int .u64 n1') := hb6.cell' (i := 1) (by rfl)
          have mb := hb6.lt
          have HX := Lib.hid hx
          clear hc1 q hx a1 a2 hb6
          have htk : e1.take (k + 1) = e1.take k ++ [(xa, xs)] := by rw [List.take_add_one, HX.out]; rfl
          have HTK := Lib.hid htk
          clear htk
          by_cases hq : xa = n1'
          · have hb : (xa != n1') = false := by simp [hq]
            have HQ := Lib.hid hq
            clear hq
            go_wp2_with fail
            go_quiet (fail)
            go_wp2_with fail
            go_roundg (e1.length - (k + 1))
            case measure => have := HK.out; omega
            case rel =>
              refine ⟨k + 1, by have := HK.out; omega, by go_num, ?_, (C6.alloc _).drewN _⟩
              have he : eout (e1.take (k + 1)) n1' = eout (e1.take k) n1' := by rw [HTK.out]; simp [eout, HQ.out]
              rw [he]
              exact HO6.out.chg0 (((Chg.refl NoB wr).alloc _).drewN _)
          · have hb : (xa != n1') = true := by simp [hq]
            have HQ := Lib.hid hq
            clear hq
            go_wp2_with fail
            go_quiet (fail)
            generalize hw6 : World.drewN _ _ = w6
            have D6 : Chg NoB (wr.alloc (.cells #[.int .u64 xa, .string xs] 116)) w6 := hw6 ▸ (Chg.refl NoB _).drewN _
            have hbx := D6.blk0 (Blk.new wr #[.int .u64 xa, .string xs] 116)
            have x1 := hbx.cell' (i := 0) (by rfl)
            have x2 := hbx.cell' (i := 1) (by rfl)
            have x3 := hbx.lt
            have E6 := ((Chg.refl NoB wr).alloc (.cells #[.int .u64 xa, .string xs] 116)).step D6
            clear hw6 hbx c1 c2 mn mb D6
            have hle : (eout (e1.take k) n1').length ≤ 1000000 := by have : (eout (e1.take k) n1').length ≤ (e1.take k).length := List.length_filter_le _ _; have : (e1.take k).length ≤ k := List.length_take_le _ _; omega
            have b1 : (eout (e1.take k) n1').length + 1 ≤ maxLen := by unfold maxLen; omega
            have b2 : ((eout (e1.take k) n1').length + 1) * 24 ≤ 140737488355328 := by omega
            have A7 := (Chg.refl NoB w6).alloc (.cells #[.int .u64 xa, .string xs] 116)
            have oA := (HO6.out.chg0 E6).chg0 A7
            have sA : Sl (w6.alloc (.cells #[.int .u64 xa, .string xs] 116)) _ 2 (.slice (some ⟨w6.heap.size, 0, none⟩) 1 1) 1 [.int .u64 xa, .string xs] := Sl.fresh w6 [.int .u64 xa, .string xs] 116 1 rfl
            have one2 : ∀ u ∈ [Value.int .u64 xa, .string xs], u.oneCell' = true := by simp [Value.oneCell']
            go_wp2_with (at_builtin; go_must (refine wpList_app rfl _ _ 37 rfl i0 _ 24 Try.underlying37 hi0 hz0 hz1 hz2 rfl rfl oA _ 1 _ rfl sA one2 b1 b2 ?_))
            intro v7 w7 o7 g7 _
            have hOB6 := HO6.out.ownBlock
            have hs6 : wr.heap.size ≤ w6.heap.size := E6.size
            have hs5 : w5.heap.size ≤ wr.heap.size := C6.size
            have he : eout (e1.take (k + 1)) n1' = eout (e1.take k) n1' ++ [(xa, xs)] := by rw [HTK.out]; simp only [eout, List.filter_append, List.filter_cons, hb, if_true, List.filter_nil]
            replace o7 : Own w7 (fun j => w5.heap.size ≤ j) 116 2 v7 (eout (e1.take (k + 1)) n1').length (ecells (eout (e1.take (k + 1)) n1')) := by
              rw [he, ecells_app, List.length_append]
              exact o7.mono fun j hj => hj.elim (fun h => (hOB6 j h).1) (fun h => by show w5.heap.size ≤ j; rw [h]; omega)
            have C7 : Chg NoB w5 w7 := ((C6.step E6).alloc _).grown g7 (fun j hj => .inr (hOB6 j hj).1)
            clear x1 x2 x3 E6 hle b1 b2 A7 oA sA one2 g7 hOB6 he
            go_wp2_with fail
            go_roundg (e1.length - (k + 1))
            case measure => have := HK.out; omega
            case rel => exact ⟨k + 1, by have := HK.out; omega, by go_num, o7, C7⟩
        · obtain rfl : k = e1.length := by omega
          have h6 := HO6.out
          rw [List.take_length, eout_drop HKD.out] at h6
          obtain ⟨p6, c6, rfl⟩ : ∃ p c, u13 = .slice p (edrop e1 n1').length c := by obtain ⟨_, p, c, h, _⟩ := h6.sl; exact ⟨p, c, h⟩
          have hb6 := C6.blk0 HB5.out
          have mn : wr.cell? ⟨b, 1, none⟩ = some (.int .u64 n1') := hb6.cell' (i := 1) (by rfl)
          have mv2 := hb6.cell' (i := 2) (by rfl)
          have mb := hb6.lt
          have mf1 := hb6.frozen 1
          have mf2 := hb6.frozen 2
          have H6 := Lib.hid h6
          have HB6 := Lib.hid hb6
          clear hc1 h6 hb6 HO6
          go_wp2_with fail
          go_roundg (edrop e1 n1').length
          case measure => have := HLEN.out; have := HL.out; omega
          case rel =>
            have hfs := follow_some HFI.out
            have a1 := HOUT.out
            have a2 := HR.out
            rw [hfs] at a1 a2
            have hHw : w.heap.size ≤ w5.heap.size := HC5.out.size
            have hH6 : w5.heap.size ≤ wr.heap.size := C6.size
            have hC6 : Chg (· = b) wr ((wr.setCell ⟨b, 2, none⟩ (.slice p6 (edrop e1 n1').length c6)).setCell ⟨b, 1, none⟩ (.int .u64 (n1' + 1))) := ((Chg.refl (· = b) wr).setCell (a := ⟨b, 2, none⟩) (.inl rfl) _).setCell (a := ⟨b, 1, none⟩) (.inl rfl) _
            refine ⟨o ++ [s1], n1' + 1, edrop e1 n1', rfl, ?_, ?_, HKD.out.drop, fun p hp => hr1 p (mem_edrop hp), ?_, a2, tup (tup t 1 w4.heap.size) 3 w5.heap.size, _, (HB6.out.set 2 _).set 1 _, ?_, ?_, ?_⟩
            · have := HLEN.out; have := HL.out; have := HOE.out; simp; omega
            · have := HN.out; simp; omega
            · simpa using a1
            · refine Sl.chg (H6.out.sl.monoIn (S' := fun k => w5.heap.size ≤ k ∧ k < wr.heap.size) fun k hk h => ⟨h, hk⟩) hC6 (fun k hk h => by have := hk.1; omega) |>.mono fun k hk => .inr ⟨by simp [tup, Nat.not_lt.2 hk.1], by omega, by simpa using hk.2⟩
            · have := (HO5.out.chg0 C6).chg hC6 (fun k hk h => by have := hk.2.1; omega)
              simpa using this.mono fun k hk => hk.keep (by simpa using hH6)
            · exact (HC5.out.then0 C6).step hC6
end Go.Proofs.Ytokigldggkkbcaa
