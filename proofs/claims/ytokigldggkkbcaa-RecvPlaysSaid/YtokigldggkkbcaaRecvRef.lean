/- The reference's receiver: what Take answers, and what it leaves. -/
import Derived.Test.YtokigldggkkbcaaRecvLaw
set_option linter.unusedVariables false
namespace Go.Proofs.Ytokigldggkkbcaa
open Go.RowKit Go.RR

def ecells (e : Early) : List Value := e.flatMap fun p => [.int .u64 p.1, .string p.2]
theorem ecells_len : ∀ e : Early, (ecells e).length = e.length * 2
  | [] => rfl
  | p :: e => by have := ecells_len e; simp only [ecells, List.flatMap_cons, List.length_append, List.length_cons, List.length_nil] at this ⊢; omega
theorem ecells_at : ∀ (e : Early) (i : Nat) (p : Int × ByteArray), e[i]? = some p → (ecells e)[i * 2]? = some (.int .u64 p.1) ∧ (ecells e)[i * 2 + 1]? = some (.string p.2)
  | [], i, p, h => by simp at h
  | q :: e, 0, p, h => by simp at h; subst h; exact ⟨rfl, rfl⟩
  | q :: e, i + 1, p, h => by
    have := ecells_at e i p (by simpa using h)
    rw [show (i + 1) * 2 = i * 2 + 2 by omega]
    exact this
theorem ecells_app (e : Early) (p : Int × ByteArray) : ecells (e ++ [p]) = ecells e ++ [.int .u64 p.1, .string p.2] := by simp [ecells]

/-- The reference's receiver lies in block b, all its memory in S. -/
def RefR (S : Nat → Prop) (w : World) (b : Nat) (room next : Int) (e : Early) : Prop :=
  ∃ v, S b ∧ Blk w b #[.int .i64 room, .int .u64 next, v] 39 ∧ Sl w (fun k => S k ∧ k ≠ b) 2 v e.length (ecells e)
theorem RefR.chg {S S' : Nat → Prop} {w w' : World} {b : Nat} {room next : Int} {e : Early} (h : RefR S w b room next e) (c : Chg S' w w') (hs : ∀ k, S k → ¬ S' k) : RefR S w' b room next e := by
  obtain ⟨v, h1, h2, h3⟩ := h
  exact ⟨v, h1, c.blk h2 (hs _ h1), h3.chg c fun k hk => hs k hk.1⟩
theorem RefR.bound {S S' : Nat → Prop} {w : World} {b : Nat} {room next : Int} {e : Early} (h : RefR S w b room next e) (hs : ∀ k, k < w.heap.size → S k → S' k) : RefR S' w b room next e := by
  obtain ⟨v, h1, h2, h3⟩ := h
  exact ⟨v, hs _ h2.lt h1, h2, h3.monoIn fun k hk h => ⟨hs k hk h.1, h.2⟩⟩

theorem efind_take : ∀ (e : Early) (a : Int) (k : Nat), (∀ i p, i < k → e[i]? = some p → p.1 ≠ a) → e.length ≤ k → efind e a = none
  | [], _, _, _, _ => rfl
  | p :: e, a, 0, _, hl => by simp at hl
  | p :: e, a, k + 1, h, hl => by
    simp only [efind, if_neg (h 0 p (by omega) rfl)]
    exact efind_take e a k (fun i q hi hq => h (i + 1) q (by omega) (by simpa using hq)) (by simpa using hl)
theorem efind_at : ∀ (e : Early) (a : Int) (k : Nat) (s : ByteArray), (∀ i p, i < k → e[i]? = some p → p.1 ≠ a) → e[k]? = some (a, s) → efind e a = some s
  | [], _, _, _, _, h => by simp at h
  | p :: e, a, 0, s, _, h => by simp at h; subst h; simp [efind]
  | p :: e, a, k + 1, s, h, hk => by
    simp only [efind, if_neg (h 0 p (by omega) rfl)]
    exact efind_at e a k s (fun i q hi hq => h (i + 1) q (by omega) (by simpa using hq)) (by simpa using hk)

set_option maxHeartbeats 1000000 in
set_option maxRecDepth 100000 in
theorem refHas (S : Nat → Prop) (w : World) (b : Nat) (room next seq : Int) (e : Early) (h : RefR S w b room next e) (hl : e.length ≤ 1000000) (hr : ∀ p ∈ e, 0 ≤ p.1 ∧ p.1 ≤ 18446744073709551615) :
    Calls Try.prog 69 #[.pointer (some ⟨b, 0, none⟩), .int .u64 seq] w (RetV fun v w' => v = .tuple #[.string ((efind e seq).getD ⟨#[]⟩), .bool (efind e seq).isSome] ∧ Chg NoB w w') := by
  obtain ⟨v, h1, hB, hv⟩ := h
  obtain ⟨-, p, cap, rfl, -, hc⟩ := hv
  have e2 : w.cell? ⟨b, 2, none⟩ = some (.slice p e.length cap) := hB.cell' (i := 2) (by rfl)
  have HB := Lib.hid hB
  clear hB
  go_enter Try.func69, Try.ntmps69
  go_wp2_with fail
  go_loopg [13] e.length (fun m i wr => ∃ k : Nat, k + m = e.length ∧ i = .int .i64 k ∧ (∀ i p, i < k → e[i]? = some p → p.1 ≠ seq) ∧ Chg NoB w wr)
  case atStart => exact ⟨0, by omega, rfl, fun i p hi => by omega, Chg.refl _ _⟩
  case round =>
    obtain ⟨k, hk, rfl, hno, C1⟩ := hrel
    have HK := Lib.hid hk
    have hkl : k ≤ e.length := by omega
    have HNO := Lib.hid hno
    clear hk hno
    by_cases hlt : k < e.length
    · obtain ⟨g, off, rfl, -, hg, q⟩ := hc (by omega)
      obtain ⟨x, hx⟩ : ∃ x, e[k]? = some x := ⟨e[k], by simp [hlt]⟩
      obtain ⟨a1, a2⟩ := ecells_at e k x hx
      have c1 := C1.cell (q _ _ a1) id
      have c2 := C1.cell (q _ _ a2) id
      rw [← Nat.add_assoc] at c2
      have hgl : g < wr.heap.size := Nat.lt_of_lt_of_le hg C1.size
      have l0 : (0 : Int) ≤ k := by omega
      have l1 : (k : Int) < e.length := by omega
      obtain ⟨xa, xs⟩ := x
      have HX := Lib.hid hx
      clear hc q hx a1 a2
      by_cases hq : xa = seq
      · have hb : (xa == seq) = true := by simp [hq]
        have HQ := Lib.hid hq
        clear hq
        go_wp2_with fail
        go_ret2
        have hf := efind_at e seq k xs HNO.out (by rw [HX.out, HQ.out])
        exact ⟨_, rfl, by rw [hf]; rfl, C1.alloc _⟩
      · have hb : (xa == seq) = false := by simp [hq]
        have HQ := Lib.hid hq
        clear hq
        go_wp2_with fail
        go_roundg (e.length - (k + 1))
        case measure => have := HK.out; omega
        case rel =>
          refine ⟨k + 1, by have := HK.out; omega, by go_num, fun i p hi hp => ?_, C1.alloc _⟩
          rcases Nat.lt_or_ge i k with h | h
          · exact HNO.out i p h hp
          · obtain rfl : i = k := by omega
            rw [HX.out] at hp
            cases hp
            exact HQ.out
    · obtain rfl : k = e.length := by omega
      clear hc
      go_wp2
      go_ret2
      have hf := efind_take e seq e.length HNO.out (Nat.le_refl _)
      exact ⟨_, rfl, by rw [hf]; rfl, C1⟩

theorem ETinfo : (Try.prog.info? 116).map (fun i => (i.zero, i.size, i.bytes)) = some (some (.agg #[.int .u64 0, .string ⟨#[]⟩]), 2, 24) := by kernel_rfl
theorem SSinfo : (Try.prog.info? 9).map (fun i => (i.zero, i.size, i.bytes)) = some (some (.string ⟨#[]⟩), 1, 16) := by kernel_rfl

set_option maxHeartbeats 1000000 in
set_option maxRecDepth 100000 in
theorem refTakeOut (S : Nat → Prop) (w : World) (b : Nat) (room next seq : Int) (e : Early) (s : ByteArray) (h : RefR S w b room next e) (hl : e.length ≤ 1000000) (hr : ∀ p ∈ e, 0 ≤ p.1 ∧ p.1 ≤ 18446744073709551615) (r0 : 0 ≤ room) (r1 : room ≤ 64) (n0 : 0 ≤ next) (n1 : next ≤ 1000000) (s0 : 0 ≤ seq) (s1 : seq ≤ 18446744073709551615)
    (hout : seq < next ∨ room < seq - next ∨ (efind e seq).isSome = true) (hne : seq ≠ next) :
    Calls Try.prog 20 #[.pointer (some ⟨b, 0, none⟩), .int .u64 seq, .string s] w (RetW (.tuple #[.slice none 0 0, .bool false]) fun w' => Chg NoB w w') := by
  have h' := h
  obtain ⟨v, h1, hB, hv⟩ := h
  have e0 : w.cell? ⟨b, 0, none⟩ = some (.int .i64 room) := hB.cell' (i := 0) (by rfl)
  have e1 : w.cell? ⟨b, 1, none⟩ = some (.int .u64 next) := hB.cell' (i := 1) (by rfl)
  clear hB hv
  go_enter Try.func20, Try.ntmps20
  go_wp2_with fail
  refine (refHas S w b room next seq e h' hl hr).mono ?_
  rintro e w1 ⟨_, rfl, rfl, C1⟩
  have k0 := C1.cell e0 id
  have k1 := C1.cell e1 id
  clear e0 e1
  by_cases hlt : seq < next
  · have hd : decide (seq < next) = true := by simpa using hlt
    clear hout
    go_wp2
    go_ret2
    exact ⟨rfl, C1⟩
  · have hd : decide (seq < next) = false := by simpa using hlt
    cases hf : (efind e seq).isSome with
    | true =>
      clear hout
      go_wp2
      go_ret2
      exact ⟨rfl, C1⟩
    | false =>
      have hs : 0 ≤ seq - next := by omega
      have hs1 : seq - next ≤ 18446744073709551615 := by omega
      have hgt : next < seq := by omega
      have hd2 : decide (next < seq) = true := by simpa using hgt
      have hd3 : decide (room < seq - next) = true := by
        rcases hout with h | h | h
        · omega
        · simpa using h
        · rw [hf] at h; cases h
      clear hout
      go_wp2_with fail
      go_quiet (fail)
      go_wp2
      go_ret2
      exact ⟨rfl, C1.drewN _⟩

set_option maxHeartbeats 1000000 in
set_option maxRecDepth 100000 in
theorem refTakeLate (S : Nat → Prop) (w : World) (b : Nat) (room next seq : Int) (e : Early) (s : ByteArray) (h : RefR S w b room next e) (hl : e.length ≤ 1000000) (hr : ∀ p ∈ e, 0 ≤ p.1 ∧ p.1 ≤ 18446744073709551615) (r0 : 0 ≤ room) (r1 : room ≤ 64) (n0 : 0 ≤ next) (n1 : next ≤ 1000000) (s0 : 0 ≤ seq) (s1 : seq ≤ 18446744073709551615)
    (hgt : next < seq) (hin : seq - next ≤ room) (hf : efind e seq = none) :
    Calls Try.prog 20 #[.pointer (some ⟨b, 0, none⟩), .int .u64 seq, .string s] w (RetW (.tuple #[.slice none 0 0, .bool true]) fun w' => RefR (Grow S w) w' b room next (e ++ [(seq, s)]) ∧ Chg S w w') := by
  obtain ⟨i0, hi0, hz0, hz1, hz2⟩ := info_parts ETinfo
  have h' := h
  obtain ⟨v, h1, hB, hv⟩ := h
  have e0 : w.cell? ⟨b, 0, none⟩ = some (.int .i64 room) := hB.cell' (i := 0) (by rfl)
  have e1 : w.cell? ⟨b, 1, none⟩ = some (.int .u64 next) := hB.cell' (i := 1) (by rfl)
  have e2 : w.cell? ⟨b, 2, none⟩ = some v := hB.cell' (i := 2) (by rfl)
  have HB := Lib.hid hB
  have HV := Lib.hid hv
  have hbl := hB.lt
  obtain ⟨pv, cv, rfl⟩ : ∃ p c, v = .slice p e.length c := by obtain ⟨_, p, c, h, _⟩ := hv; exact ⟨p, c, h⟩
  clear hB hv
  have hs : 0 ≤ seq - next := by omega
  have hs1 : seq - next ≤ 18446744073709551615 := by omega
  have hd1 : decide (seq < next) = false := by simp; omega
  have hd2 : decide (next < seq) = true := by simpa using hgt
  have hd3 : decide (room < seq - next) = false := by simp; omega
  go_enter Try.func20, Try.ntmps20
  go_wp2_with fail
  refine (refHas S w b room next seq e h' hl hr).mono ?_
  rintro e w1 ⟨_, rfl, rfl, C1⟩
  rw [hf]
  have k0 := C1.cell e0 id
  have k1 := C1.cell e1 id
  have k2 := C1.cell e2 id
  clear e0 e1 e2
  go_wp2_with fail
  go_quiet (fail)
  generalize hw2 : w1.drewN _ = w2
  have C2 : Chg NoB w w2 := hw2 ▸ C1.drewN _
  have hv2 := HV.out.chg0 C2
  have e2 : w2.cell? ⟨b, 2, none⟩ = some (.slice pv e.length cv) := hw2 ▸ k2
  have k3 := (C2.blk0 HB.out).frozen 2
  have k4 : b < w2.heap.size := (C2.blk0 HB.out).lt
  clear hw2 k0 k1 k2 C1
  have o1 : Own (w2.alloc (.cells #[] 116)) (fun k => k = w2.heap.size) 116 2 (.slice (some ⟨w2.heap.size, 0, none⟩) 0 0) 0 [] := Own.fresh w2 [] 116 0 rfl (by unfold maxLen; omega)
  have s1' := hv2.chg0 ((Chg.refl NoB w2).alloc (.cells #[] 116))
  have b1 : 0 + e.length ≤ maxLen := by unfold maxLen; omega
  have b2 : (0 + e.length) * 24 ≤ 140737488355328 := by omega
  have one : ∀ u ∈ ecells e, u.oneCell' = true := by
    intro u hu
    obtain ⟨q, -, hq⟩ := List.mem_flatMap.1 hu
    simp at hq
    rcases hq with rfl | rfl <;> rfl
  go_wp2_with (at_builtin; go_must (refine wpList_app rfl _ _ 37 rfl i0 _ 24 Try.underlying37 hi0 hz0 hz1 hz2 rfl rfl o1 _ e.length _ rfl s1' one b1 b2 ?_))
  intro v3 w3 o3 g3 _
  have hH : w.heap.size ≤ w2.heap.size := C2.size
  replace o3 : Own w3 (fun k => w.heap.size ≤ k) 116 2 v3 e.length (ecells e) := by simpa using o3.mono (S' := fun k => w.heap.size ≤ k) (fun k hk => by simp [Value.ownBlock] at hk; omega)
  have C3 : Chg NoB w w3 := (C2.alloc _).grown g3 (fun k hk => .inr (by simp [Value.ownBlock] at hk; omega))
  have hb3 := C3.blk0 HB.out
  have f2 : w3.frozen? ⟨b, 2, none⟩ = false := hb3.frozen 2
  have f3 : b < w3.heap.size := hb3.lt
  clear o1 s1' b1 b2 one g3 e2 k3 k4 hv2 C2 hb3
  have A3 := (Chg.refl NoB w3).alloc (.cells #[.int .u64 seq, .string s] 116)
  have oA := o3.chg0 A3
  have sA : Sl (w3.alloc (.cells #[.int .u64 seq, .string s] 116)) _ 2 (.slice (some ⟨w3.heap.size, 0, none⟩) 1 1) 1 [.int .u64 seq, .string s] := Sl.fresh w3 [.int .u64 seq, .string s] 116 1 rfl
  have b3 : e.length + 1 ≤ maxLen := by unfold maxLen; omega
  have b4 : (e.length + 1) * 24 ≤ 140737488355328 := by omega
  have one2 : ∀ u ∈ [Value.int .u64 seq, .string s], u.oneCell' = true := by simp [Value.oneCell']
  go_wp2_with (at_builtin; go_must (refine wpList_app rfl _ _ 37 rfl i0 _ 24 Try.underlying37 hi0 hz0 hz1 hz2 rfl rfl oA _ 1 _ rfl sA one2 b3 b4 ?_))
  intro v5 w5 o5 g5 _
  have hH3 : w.heap.size ≤ w3.heap.size := C3.size
  have hOB : ∀ k, v3.ownBlock = some k → w.heap.size ≤ k := fun k hk => (o3.ownBlock k hk).1
  replace o5 : Own w5 (fun k => w.heap.size ≤ k) 116 2 v5 (e.length + 1) (ecells (e ++ [(seq, s)])) := by
    rw [ecells_app]
    simpa using o5.mono (S' := fun k => w.heap.size ≤ k) (fun k hk => hk.elim (hOB k) (fun h => by show w.heap.size ≤ k; rw [h]; omega))
  have C5 : Chg NoB w w5 := (C3.alloc _).grown g5 (fun k hk => .inr (hOB k hk))
  have hb5 := C5.blk0 HB.out
  have m2 : w5.cell? ⟨b, 2, none⟩ = some (.slice pv e.length cv) := hb5.cell' (i := 2) (by rfl)
  have f5 : w5.frozen? ⟨b, 2, none⟩ = false := hb5.frozen 2
  have f6 : b < w5.heap.size := hb5.lt
  obtain ⟨p5, c5, rfl⟩ : ∃ p c, v5 = .slice p (e.length + 1) c := by obtain ⟨_, p, c, h, _⟩ := o5.sl; exact ⟨p, c, h⟩
  have HB5 := Lib.hid hb5
  have HO5 := Lib.hid o5
  clear oA sA b3 b4 one2 g5 o3 A3 f2 f3 hb5 o5 hOB
  go_wp2
  go_ret2
  refine ⟨rfl, ⟨_, .inl h1, HB5.out.set 2 _, ?_⟩, (C5.mono (S' := S) fun _ _ h => h.elim).setCell (a := ⟨b, 2, none⟩) (.inl h1) _⟩
  rw [List.length_append]
  refine Sl.chg (S' := (· = b)) (w := w5) ?_ ((Chg.refl (· = b) w5).setCell (a := ⟨b, 2, none⟩) (.inl rfl) _) (fun k hk => hk.2)
  exact HO5.out.sl.mono fun k hk => ⟨.inr hk, by omega⟩
end Go.Proofs.Ytokigldggkkbcaa
