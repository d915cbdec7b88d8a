/- RingPlays: rings answer every script as the reference does; from the contracts of both. -/
import Derived.Test.YtokigldggkkbcaaRingRef
set_option linter.unusedVariables false
namespace Go.Proofs.Ytokigldggkkbcaa
open Go.RowKit Go.RR

theorem i_pop_nil (w : World) : Calls Try.prog 25 #[.pointer none] w fun e w' => e = .returned (.tuple #[.int .i64 0, .bool false]) ∧ ∃ n, w.drewN n = w' := by
  go_enter Try.func25, Try.ntmps25
  go_wp2
  all_goals
    go_ret2
    exact ⟨rfl, 0, rfl⟩
theorem i_at_nil (i : Int) (w : World) : Calls Try.prog 29 #[.pointer none, .int .i64 i] w fun e w' => e = .returned (.tuple #[.int .i64 0, .bool false]) ∧ w = w' := by
  go_enter Try.func29, Try.ntmps29
  go_wp2
  go_ret2
  exact ⟨rfl, rfl⟩
theorem i_push_nil (v : Value) (w : World) : Calls Try.prog 27 #[.pointer none, v] w fun e w' => e = .returned (.bool false) ∧ ∃ n, w.drewN n = w' := by
  go_enter Try.func27, Try.ntmps27
  go_wp2_with fail
  go_quiet (fail)
  go_wp2
  go_ret
  exact ⟨rfl, _, rfl⟩
theorem i_len_nil (w : World) : Calls Try.prog 30 #[.pointer none] w fun e w' => e = .returned (.int .i64 0) ∧ w = w' := by
  go_enter Try.func30, Try.ntmps30
  go_wp2
  go_ret
  exact ⟨rfl, rfl⟩
theorem i_room_nil (w : World) : Calls Try.prog 31 #[.pointer none] w fun e w' => e = .returned (.int .i64 0) ∧ w = w' := by
  go_enter Try.func31, Try.ntmps31
  go_wp2
  go_ret
  exact ⟨rfl, rfl⟩
theorem i_list_nil (w : World) : Calls Try.prog 32 #[.pointer none] w fun e w' => e = .returned (.slice none 0 0) ∧ w = w' := by
  go_enter Try.func32, Try.ntmps32
  go_wp2_with (go_at_call 30; refine (i_len_nil w).mono ?_; rintro e w' ⟨rfl, rfl⟩)
  go_loopw [3, 9] (fun l i wr => l = .slice none 0 0 ∧ i = .int .i64 0 ∧ w = wr) (fun _ _ _ => 0)
  case atStart => exact ⟨rfl, rfl, rfl⟩
  case round =>
    obtain ⟨rfl, rfl, rfl⟩ := hrel
    go_wp2
    go_ret
    exact ⟨rfl, rfl⟩

set_option maxHeartbeats 1000000 in
set_option maxRecDepth 100000 in
theorem ring_first (w : World) : Calls Try.prog 22 #[] w (RetW (.bool true) fun w' => Chg NoB w w') := by
  go_enter Try.func22, Try.ntmps22
  go_wp2_with fail
  refine (i_new_any 2 _).mono ?_
  rintro e w1 ⟨b, rfl, -, R1, C1⟩
  have R1 : RingAt 118 3 (Value.int .i64) (fun k => w.heap.size ≤ k) w1 b [] 2 := R1.mono fun k hk => hk.resolve_left id
  go_wp2_with fail
  refine (i_push_ok _ b [] 2 7 _ R1 (by decide)).mono ?_
  rintro e w2 ⟨rfl, R2, C2⟩
  have R2 : RingAt 118 3 (Value.int .i64) (fun k => w.heap.size ≤ k) w2 b [7] 2 := R2.mono fun k hk => hk.elim id (Nat.le_trans C1.size)
  replace C2 := C1.trans C2 (fun _ h1 h2 => absurd h1 (Nat.not_lt.2 h2))
  clear R1 C1
  go_wp2_with fail
  refine (i_push_ok _ b [7] 2 8 _ R2 (by decide)).mono ?_
  rintro e w3 ⟨rfl, R3, C3⟩
  have R3 : RingAt 118 3 (Value.int .i64) (fun k => w.heap.size ≤ k) w3 b [7, 8] 2 := R3.mono fun k hk => hk.elim id (Nat.le_trans C2.size)
  replace C3 := C2.trans C3 (fun _ h1 h2 => absurd h1 (Nat.not_lt.2 h2))
  clear R2 C2
  go_wp2_with fail
  refine (i_push_full b 2 2 _ _ (by obtain ⟨_, _, _, _, hB, _⟩ := R3; exact hB.cell' (by rfl)) (by obtain ⟨_, _, _, _, hB, _⟩ := R3; exact hB.cell' (by rfl)) (by decide)).mono ?_
  rintro e w4 ⟨rfl, n4, hn4⟩
  have R4 : RingAt 118 3 (Value.int .i64) (fun k => w.heap.size ≤ k) w4 b [7, 8] 2 := hn4 ▸ R3
  have C4 : Chg NoB w w4 := hn4 ▸ C3.drewN n4
  clear R3 C3 hn4
  go_wp2_with fail
  refine (i_pop_ok _ b 7 [8] 2 _ R4).mono ?_
  rintro e w5 ⟨rfl, R5, C5⟩
  replace C5 := C4.trans C5 (fun _ h1 h2 => absurd h1 (Nat.not_lt.2 h2))
  clear R4 C4
  go_wp2_with fail
  refine (i_push_ok _ b [8] 2 9 _ R5 (by decide)).mono ?_
  rintro e w6 ⟨rfl, R6, C6⟩
  have R6 : RingAt 118 3 (Value.int .i64) (fun k => w.heap.size ≤ k) w6 b [8, 9] 2 := R6.mono fun k hk => hk.elim id (Nat.le_trans C5.size)
  replace C6 := C5.trans C6 (fun _ h1 h2 => absurd h1 (Nat.not_lt.2 h2))
  clear R5 C5
  go_wp2_with fail
  refine (i_list_any _ b [8, 9] 2 _ R6).mono ?_
  rintro e w7 ⟨l, rfl, O7, C7⟩
  have O7 := (Own.of_row O7).sl
  have hR7 := R6.chg C7 (fun _ _ => id)
  have s2 := Sl.fresh (size := 1) w7 [.int .i64 8, .int .i64 9] 3 2 rfl
  have R8 := hR7.chg ((Chg.refl NoB w7).alloc (.cells #[.int .i64 8, .int .i64 9] 3)) (fun _ _ => id)
  have O8 := O7.chg0 ((Chg.refl NoB w7).alloc (.cells #[.int .i64 8, .int .i64 9] 3))
  have C8 := (C6.then0 C7).alloc (.cells #[.int .i64 8, .int .i64 9] 3)
  clear R6 C6 C7 O7 hR7
  go_wp2_with fail
  refine (same_any _ _ _ _ [8, 9] [8, 9] _ O8 s2 (by decide) (by decide) true (by decide)).mono ?_
  rintro e w9 ⟨rfl, C9⟩
  have R9 := R8.chg C9 (fun _ _ => id)
  go_wp2_with fail
  refine (i_room_any b 2 _ (by obtain ⟨_, _, _, _, hB, _⟩ := R9; exact hB.cell' (by rfl))).mono ?_
  rintro e w10 ⟨rfl, rfl⟩
  go_wp2
  go_ret
  exact ⟨rfl, C8.then0 C9⟩

theorem RingAt.cell2 {S : Nat → Prop} {w : World} {b : Nat} {xs : List Int} {room : Nat} (h : RingAt 118 3 (Value.int .i64) S w b xs room) : w.cell? ⟨b, 2, none⟩ = some (.int .i64 xs.length) := by
  obtain ⟨_, _, _, _, hB, _⟩ := h; exact hB.cell' (i := 2) (by rfl)
theorem RingAt.cell3 {S : Nat → Prop} {w : World} {b : Nat} {xs : List Int} {room : Nat} (h : RingAt 118 3 (Value.int .i64) S w b xs room) : w.cell? ⟨b, 3, none⟩ = some (.int .i64 room) := by
  obtain ⟨_, _, _, _, hB, _⟩ := h; exact hB.cell' (i := 3) (by rfl)
theorem RefAt.bound {S : Nat → Prop} {w : World} {b : Nat} {xs : List Int} {room : Nat} (h : RefAt S w b xs room) : RefAt (fun k => S k ∧ k < w.heap.size) w b xs room := by
  obtain ⟨v, hb, hB, hv, h1, h2⟩ := h
  exact ⟨v, ⟨hb, hB.lt⟩, hB, hv.monoIn (fun k hk h => ⟨⟨h.1, hk⟩, h.2⟩), h1, h2⟩

/-- A ring and a reference's ring, apart from each other and from all that was there in w0. -/
def Two (w0 w : World) (b : Nat) (xs : List Int) (c : Nat) (ys : List Int) (R : Nat) : Prop :=
  ∃ S1 S2 : Nat → Prop, RingAt 118 3 (Value.int .i64) S1 w b xs R ∧ RefAt S2 w c ys R ∧ (∀ k, S1 k → ¬ S2 k) ∧ (∀ k, S1 k → w0.heap.size ≤ k ∧ k < w.heap.size) ∧ (∀ k, S2 k → w0.heap.size ≤ k ∧ k < w.heap.size) ∧ Chg NoB w0 w

section
variable {w0 w w' : World} {b c R : Nat} {xs ys : List Int}
theorem Two.chg0 (h : Two w0 w b xs c ys R) (k : Chg NoB w w') : Two w0 w' b xs c ys R := by
  obtain ⟨S1, S2, h1, h2, h3, h4, h5, h6⟩ := h
  exact ⟨S1, S2, h1.chg k fun _ _ => id, h2.chg k fun _ _ => id, h3, fun i hi => ⟨(h4 i hi).1, Nat.lt_of_lt_of_le (h4 i hi).2 k.size⟩, fun i hi => ⟨(h5 i hi).1, Nat.lt_of_lt_of_le (h5 i hi).2 k.size⟩, h6.then0 k⟩
theorem Two.chg (h : Two w0 w b xs c ys R) : Chg NoB w0 w := by
  obtain ⟨S1, S2, h1, h2, h3, h4, h5, h6⟩ := h; exact h6
theorem Two.ring (h : Two w0 w b xs c ys R) : ∃ S, RingAt 118 3 (Value.int .i64) S w b xs R := by
  obtain ⟨S1, S2, h1, _⟩ := h; exact ⟨S1, h1⟩
theorem Two.ref (h : Two w0 w b xs c ys R) : ∃ S, RefAt S w c ys R := by
  obtain ⟨S1, S2, _, h1, _⟩ := h; exact ⟨S2, h1⟩
theorem Two.push (h : Two w0 w b xs c ys R) (v : Int) (hn : xs.length < R) : Calls Try.prog 27 #[.pointer (some ⟨b, 0, none⟩), .int .i64 v] w (RetW (.bool true) fun w' => Two w0 w' b (xs ++ [v]) c ys R) := by
  obtain ⟨S1, S2, h1, h2, h3, h4, h5, h6⟩ := h
  refine (i_push_ok S1 b xs R v w h1 hn).mono ?_
  rintro e w' ⟨rfl, k1, k2⟩
  refine ⟨rfl, _, S2, k1.bound (S' := fun k => Grow S1 w k ∧ k < w'.heap.size) (fun k hk h => ⟨h, hk⟩), h2.chg k2 (fun k hk hk' => h3 k hk' hk), ?_, ?_, fun i hi => ⟨(h5 i hi).1, Nat.lt_of_lt_of_le (h5 i hi).2 k2.size⟩, h6.trans k2 fun k hk hk' => absurd hk (Nat.not_lt.2 (h4 k hk').1)⟩
  · rintro k ⟨hk | hk, _⟩ hk2
    · exact h3 k hk hk2
    · exact absurd (h5 k hk2).2 (by omega)
  · rintro k ⟨hk | hk, hk2⟩
    · exact ⟨(h4 k hk).1, hk2⟩
    · exact ⟨Nat.le_trans h6.size hk, hk2⟩
theorem Two.push_full (h : Two w0 w b xs c ys R) (v : Value) (hn : xs.length = R) : Calls Try.prog 27 #[.pointer (some ⟨b, 0, none⟩), v] w (RetW (.bool false) fun w' => Two w0 w' b xs c ys R) := by
  obtain ⟨S1, S2, h1, _⟩ := id h
  refine (i_push_full b _ _ v w h1.cell2 h1.cell3 (by omega)).mono ?_
  rintro e w' ⟨rfl, hn⟩
  exact ⟨rfl, h.chg0 (Chg.of_ex' hn)⟩
theorem Two.pop {x : Int} {t : List Int} (h : Two w0 w b (x :: t) c ys R) : Calls Try.prog 25 #[.pointer (some ⟨b, 0, none⟩)] w (RetW (.tuple #[.int .i64 x, .bool true]) fun w' => Two w0 w' b t c ys R) := by
  obtain ⟨S1, S2, h1, h2, h3, h4, h5, h6⟩ := h
  refine (i_pop_ok S1 b x t R w h1).mono ?_
  rintro e w' ⟨rfl, k1, k2⟩
  exact ⟨rfl, S1, S2, k1, h2.chg k2 (fun k hk hk' => h3 k hk' hk), h3, fun i hi => ⟨(h4 i hi).1, Nat.lt_of_lt_of_le (h4 i hi).2 k2.size⟩, fun i hi => ⟨(h5 i hi).1, Nat.lt_of_lt_of_le (h5 i hi).2 k2.size⟩, h6.trans k2 fun k hk hk' => absurd hk (Nat.not_lt.2 (h4 k hk').1)⟩
theorem Two.pop_no (h : Two w0 w b [] c ys R) : Calls Try.prog 25 #[.pointer (some ⟨b, 0, none⟩)] w (RetW (.tuple #[.int .i64 0, .bool false]) fun w' => w = w') := by
  obtain ⟨S1, S2, h1, _⟩ := id h
  exact i_pop_no b w h1.cell2
theorem Two.rpush (h : Two w0 w b xs c ys R) (v : Int) (hn : ys.length < R) : Calls Try.prog 28 #[.pointer (some ⟨c, 0, none⟩), .int .i64 v] w (RetW (.bool true) fun w' => Two w0 w' b xs c (ys ++ [v]) R) := by
  obtain ⟨S1, S2, h1, h2, h3, h4, h5, h6⟩ := h
  refine (rpush_ok S2 c R ys v w h2 hn).mono ?_
  rintro e w' ⟨rfl, k1, k2⟩
  refine ⟨rfl, S1, _, h1.chg k2 (fun k hk hk' => h3 k hk hk'), k1.bound, ?_, fun i hi => ⟨(h4 i hi).1, Nat.lt_of_lt_of_le (h4 i hi).2 k2.size⟩, ?_, h6.trans k2 fun k hk hk' => absurd hk (Nat.not_lt.2 (h5 k hk').1)⟩
  · rintro k hk2 ⟨hk | hk, _⟩
    · exact h3 k hk2 hk
    · exact absurd (h4 k hk2).2 (by omega)
  · rintro k ⟨hk | hk, hk2⟩
    · exact ⟨(h5 k hk).1, hk2⟩
    · exact ⟨Nat.le_trans h6.size hk, hk2⟩
theorem Two.rpush_full (h : Two w0 w b xs c ys R) (v : Value) (hn : ys.length = R) : Calls Try.prog 28 #[.pointer (some ⟨c, 0, none⟩), v] w (RetW (.bool false) fun w' => Two w0 w' b xs c ys R) := by
  obtain ⟨S1, S2, h1, h2, _⟩ := id h
  refine (Proofs.Ytokigldggkkbcaa.rpush_full S2 c R ys v w h2 hn).mono ?_
  rintro e w' ⟨rfl, hn⟩
  exact ⟨rfl, h.chg0 (Chg.of_ex' hn)⟩
theorem Two.rpop {x : Int} {t : List Int} (h : Two w0 w b xs c (x :: t) R) : Calls Try.prog 26 #[.pointer (some ⟨c, 0, none⟩)] w (RetW (.tuple #[.int .i64 x, .bool true]) fun w' => Two w0 w' b xs c t R) := by
  obtain ⟨S1, S2, h1, h2, h3, h4, h5, h6⟩ := h
  refine (rpop_ok S2 c R x t w h2).mono ?_
  rintro e w' ⟨rfl, k1, k2⟩
  exact ⟨rfl, S1, S2, h1.chg k2 h3, k1, h3, fun i hi => ⟨(h4 i hi).1, Nat.lt_of_lt_of_le (h4 i hi).2 k2.size⟩, fun i hi => ⟨(h5 i hi).1, Nat.lt_of_lt_of_le (h5 i hi).2 k2.size⟩, h6.trans k2 fun k hk hk' => absurd hk (Nat.not_lt.2 (h5 k hk').1)⟩
theorem Two.rpop_no (h : Two w0 w b xs c [] R) : Calls Try.prog 26 #[.pointer (some ⟨c, 0, none⟩)] w (RetW (.tuple #[.int .i64 0, .bool false]) fun w' => w = w') := by
  obtain ⟨S1, S2, h1, h2, _⟩ := id h
  exact Proofs.Ytokigldggkkbcaa.rpop_no S2 c R w h2
end
end Go.Proofs.Ytokigldggkkbcaa
