/- The reference's ring: what each method does. -/
import Derived.Test.YtokigldggkkbcaaRing
set_option linter.unusedVariables false
namespace Go.Proofs.Ytokigldggkkbcaa
open Go.RowKit Go.RR

/-- The reference's ring lies in block b, all its memory in S. -/
def RefAt (S : Nat → Prop) (w : World) (b : Nat) (xs : List Int) (room : Nat) : Prop :=
  ∃ (v : Value), S b ∧ Blk w b #[v, .int .i64 room] 57 ∧ Sl w (fun k => S k ∧ k ≠ b) 1 v xs.length (xs.map (Value.int .i64)) ∧ room ≤ 65536 ∧ xs.length ≤ room

theorem RefAt.chg {S S' : Nat → Prop} {w w' : World} {b : Nat} {xs : List Int} {room : Nat} (h : RefAt S w b xs room) (c : Chg S' w w') (hs : ∀ k, S k → ¬ S' k) : RefAt S w' b xs room := by
  obtain ⟨v, hb, hB, hv, h1, h2⟩ := h
  exact ⟨v, hb, c.blk hB (hs b hb), hv.chg c (fun k hk => hs k hk.1), h1, h2⟩
theorem RefAt.mono {S S' : Nat → Prop} {w : World} {b : Nat} {xs : List Int} {room : Nat} (h : RefAt S w b xs room) (hs : ∀ k, S k → S' k) : RefAt S' w b xs room := by
  obtain ⟨v, hb, hB, hv, h1, h2⟩ := h
  exact ⟨v, hs b hb, hB, hv.mono (fun k hk => ⟨hs k hk.1, hk.2⟩), h1, h2⟩

set_option maxHeartbeats 400000 in
theorem rnew_any (n : Int) (w : World) :
    Calls Try.prog 24 #[.int .i64 n] w (RetPtr fun b w' => b = w.heap.size ∧ RefAt (Grow NoB w) w' b [] (min (max n 0) 65536).toNat ∧ Chg NoB w w') := by
  go_enter Try.func24, Try.ntmps24
  go_wp2
  all_goals
    go_ret
    refine ⟨_, rfl, rfl, ⟨.slice none 0 0, .inr (Nat.le_refl _), ?_, Sl.nil _ _ _, by omega, Nat.zero_le _⟩, (Chg.refl _ _).alloc _⟩
    have e : ∀ k : Int, k = (min (max n 0) 65536) → Blk (w.alloc (.cells #[.slice none 0 0, .int .i64 k] 57)) w.heap.size #[.slice none 0 0, .int .i64 ((min (max n 0) 65536).toNat : Int)] 57 := fun k hk => by
      have := Blk.new w #[.slice none 0 0, .int .i64 k] 57
      rw [show ((min (max n 0) 65536).toNat : Int) = k by omega]
      exact this
    exact e _ (by omega)

theorem rpop_no (S : Nat → Prop) (b room : Nat) (w : World) (h : RefAt S w b [] room) :
    Calls Try.prog 26 #[.pointer (some ⟨b, 0, none⟩)] w fun e w' => e = .returned (.tuple #[.int .i64 0, .bool false]) ∧ w = w' := by
  obtain ⟨v, hb, hB, hv, h1, h2⟩ := h
  obtain ⟨p, cap, rfl, -, -⟩ := hv.shape
  have h0 : w.cell? ⟨b, 0, none⟩ = some (.slice p ([] : List Int).length cap) := hB.cell' (i := 0) (by rfl)
  go_enter Try.func26, Try.ntmps26
  go_wp2
  go_ret2
  exact ⟨rfl, rfl⟩

set_option maxHeartbeats 400000 in
theorem rpop_ok (S : Nat → Prop) (b room : Nat) (x : Int) (t : List Int) (w : World) (h : RefAt S w b (x :: t) room) :
    Calls Try.prog 26 #[.pointer (some ⟨b, 0, none⟩)] w (RetW (.tuple #[.int .i64 x, .bool true]) fun w' => RefAt S w' b t room ∧ Chg S w w') := by
  obtain ⟨v, hb, hB, hv, h1, h2⟩ := h
  obtain ⟨hl, p, cap, rfl, hn, hc0⟩ := hv
  obtain ⟨g, off, rfl, hg, hgl, hc⟩ := hc0 (by simp)
  clear hc0
  have h0 : w.cell? ⟨b, 0, none⟩ = some (.slice (some ⟨g, off, none⟩) (x :: t).length cap) := hB.cell' (i := 0) (by rfl)
  have h3 : w.cell? ⟨g, off, none⟩ = some (.int .i64 x) := hc 0 _ rfl
  have hf := hB.frozen 0
  have h5 : (0 : Int) < (x :: t).length := by simp
  have hn' : t.length + 1 ≤ cap := by simpa using hn
  have hn2 : ((t.length : Int) + 1) ≤ cap := by omega
  have hq : ¬ (1 = cap) ∨ t = [] := by
    by_cases h : t = []
    · exact .inr h
    · left; have : 0 < t.length := List.length_pos_iff.2 h; omega
  have H := Lib.hid hl
  have HC := Lib.hid hc
  have HB := Lib.hid hB
  clear hl hc hB hq
  go_enter Try.func26, Try.ntmps26
  go_wp2
  · rename_i hc1
    obtain rfl : t = [] := List.eq_nil_of_length_eq_zero (by omega)
    go_ret2
    refine ⟨rfl, ⟨_, hb, HB.out.set 0 _, ?_, h1, Nat.zero_le _⟩, (Chg.refl S w).setCell (.inl hb) _⟩
    exact Sl.chg (S' := (· = b)) (Sl.empty _ _ _ _ _) ((Chg.refl (· = b) w).setCell (.inl rfl) _) (fun k hk => hk.2)
  · go_ret2
    refine ⟨rfl, ⟨_, hb, HB.out.set 0 _, ?_, h1, by simp at h2; omega⟩, (Chg.refl S w).setCell (.inl hb) _⟩
    exact Sl.chg (S' := (· = b)) (Sl.of (by simp) (by omega) hg hgl (fun j u hu => by
      have := HC.out (j + 1) u (by simpa using hu)
      rwa [show off + (j + 1) = off + 1 + j by omega] at this)) ((Chg.refl (· = b) w).setCell (.inl rfl) _) (fun k hk => hk.2)

theorem rpush_full (S : Nat → Prop) (b room : Nat) (xs : List Int) (v : Value) (w : World) (h : RefAt S w b xs room) (hn : xs.length = room) :
    Calls Try.prog 28 #[.pointer (some ⟨b, 0, none⟩), v] w fun e w' => e = .returned (.bool false) ∧ ∃ n, w.drewN n = w' := by
  obtain ⟨u, hb, hB, hv, h1, h2⟩ := h
  obtain ⟨p, cap, rfl, -, -⟩ := hv.shape
  have h0 : w.cell? ⟨b, 0, none⟩ = some (.slice p xs.length cap) := hB.cell' (i := 0) (by rfl)
  have h3 : w.cell? ⟨b, 1, none⟩ = some (.int .i64 room) := hB.cell' (i := 1) (by rfl)
  have ht : ((xs.length : Int) == (room : Int)) = true := by simp; omega
  clear hn hB hv
  go_enter Try.func28, Try.ntmps28
  go_wp2_with fail
  go_quiet (fail)
  go_wp2
  go_ret
  exact ⟨rfl, _, rfl⟩

set_option maxHeartbeats 1000000 in
set_option maxRecDepth 100000 in
theorem rpush_ok (S : Nat → Prop) (b room : Nat) (xs : List Int) (x : Int) (w : World) (h : RefAt S w b xs room) (hn : xs.length < room) :
    Calls Try.prog 28 #[.pointer (some ⟨b, 0, none⟩), .int .i64 x] w (RetW (.bool true) fun w' => RefAt (Grow S w) w' b (xs ++ [x]) room ∧ Chg S w w') := by
  obtain ⟨i0, hi0, hz0, hz1, hz2⟩ := info_parts i_info
  obtain ⟨u, hb, hB, hv, h1, h2⟩ := h
  have h0 : w.cell? ⟨b, 0, none⟩ = some u := hB.cell' (i := 0) (by rfl)
  have h3 : w.cell? ⟨b, 1, none⟩ = some (.int .i64 room) := hB.cell' (i := 1) (by rfl)
  obtain ⟨p, cap, rfl, -, -⟩ := hv.shape
  have ht : ((xs.length : Int) == (room : Int)) = false := by simp; omega
  have hf := hB.frozen 0
  go_enter Try.func28, Try.ntmps28
  go_wp2_with fail
  go_quiet (fail)
  generalize hw : w.drewN _ = w1
  have C1 : Chg NoB w w1 := hw ▸ (Chg.refl NoB w).drewN _
  have hv1 := hv.chg0 C1
  have k0 := C1.cell h0 id
  have kf := (C1.blk0 hB).frozen 0
  have kl : b < w1.heap.size := (C1.blk0 hB).lt
  clear hw h0 h3 hf hv
  have o1 : Own (w1.alloc (.cells #[] 3)) (fun k => k = w1.heap.size) 3 1 (.slice (some ⟨w1.heap.size, 0, none⟩) 0 0) 0 [] := Own.fresh w1 [] 3 0 rfl (by unfold maxLen; omega)
  have s1 : Sl (w1.alloc (.cells #[] 3)) _ 1 _ _ _ := hv1.chg0 ((Chg.refl NoB w1).alloc _)
  have hb1 : 0 + xs.length ≤ maxLen := by unfold maxLen; omega
  have hb2 : (0 + xs.length) * 8 ≤ 140737488355328 := by omega
  have one : ∀ u ∈ xs.map (Value.int .i64), u.oneCell' = true := by simp [Value.oneCell']
  go_wp2_with (at_builtin; go_must (refine wpList_app rfl _ _ 47 rfl i0 _ 8 Try.underlying47 hi0 hz0 hz1 hz2 rfl rfl o1 _ xs.length _ rfl s1 one hb1 hb2 ?_))
  intro v2 w2 o2 g2 _
  replace o2 : Own w2 (fun k => w1.heap.size ≤ k) 3 1 v2 xs.length (xs.map (Value.int .i64)) := by simpa using o2.mono (S' := fun k => w1.heap.size ≤ k) (fun k hk => by simp [Value.ownBlock] at hk; omega)
  have C2 : Chg NoB w1 w2 := ((Chg.refl NoB w1).alloc _).grown g2 (fun k hk => .inr (by simp [Value.ownBlock] at hk; omega))
  have o3 : Own (w2.alloc (.cells #[.int .i64 x] 3)) _ 3 1 v2 xs.length _ := o2.chg0 ((Chg.refl NoB w2).alloc _)
  have s3 : Sl (w2.alloc (.cells #[.int .i64 x] 3)) _ 1 (.slice (some ⟨w2.heap.size, 0, none⟩) 1 1) 1 [.int .i64 x] := Sl.fresh w2 [.int .i64 x] 3 1 rfl
  have hc1 : xs.length + 1 ≤ maxLen := by unfold maxLen; omega
  have hc2 : (xs.length + 1) * 8 ≤ 140737488355328 := by omega
  have one1 : ∀ u ∈ [Value.int .i64 x], u.oneCell' = true := by simp [Value.oneCell']
  clear o1 s1 hb1 hb2 one
  go_wp2_with (at_builtin; go_must (refine wpList_app rfl _ _ 47 rfl i0 _ 8 Try.underlying47 hi0 hz0 hz1 hz2 rfl rfl o3 _ 1 _ rfl s3 one1 hc1 hc2 ?_))
  intro v4 w4 o4 g4 hv4
  have hC : ∀ k, v2.ownBlock = some k → w1.heap.size ≤ k := fun k hk => by
    exact (o2.ownBlock k hk).1
  replace o4 : Own w4 (fun k => v2.ownBlock = some k ∨ w2.heap.size ≤ k) 3 1 v4 (xs.length + 1) (xs.map (Value.int .i64) ++ [.int .i64 x]) := by simpa using o4.mono (S' := fun k => v2.ownBlock = some k ∨ w2.heap.size ≤ k) (fun k hk => hk.elim .inl (fun h => .inr (by subst h; simp)))
  have C4 : Chg NoB w1 w4 := (C2.alloc _).grown g4 (fun k hk => .inr (hC k hk))
  have hH : w.heap.size ≤ w1.heap.size := C1.size
  have hbH := hB.lt
  have o5 : Own w4 (fun k => w.heap.size ≤ k) 3 1 v4 (xs.length + 1) _ := o4.mono fun k hk => by
    rcases hk with hk | hk
    · have := hC k hk; omega
    · have := C2.size; omega
  have C5 := C1.then0 C4
  have k1 := C4.cell k0 id
  have kf1 : w4.frozen? ⟨b, 0, none⟩ = false := (C5.blk0 hB).frozen 0
  have HB := Lib.hid (C5.blk0 hB)
  have HO := Lib.hid o5
  clear k0 kf hv1 o2 g2 o3 s3 o4 g4 hC C2 C4 hB one1 hv4
  have hcell : ∃ p n c, v4 = .slice p n c := by
    rcases o5.2 with h | ⟨_, _, _, _, h, _⟩
    · exact ⟨_, _, _, h.1⟩
    · exact ⟨_, _, _, h⟩
  clear o5
  obtain ⟨p4, n4, c4, rfl⟩ := hcell
  go_wp2
  go_ret
  refine ⟨rfl, ⟨_, .inl hb, HB.out.set 0 _, ?_, h1, by simp; omega⟩, (C5.mono (fun _ _ h => h.elim)).setCell (.inl hb) _⟩
  have := HO.out.sl
  rw [show xs.length + 1 = (xs ++ [x]).length by simp] at this
  refine Sl.chg (S' := (· = b)) (w := w4) ?_ ((Chg.refl (· = b) w4).setCell (.inl rfl) _) (fun k hk => hk.2)
  rw [List.map_append]
  exact this.mono fun k hk => ⟨.inr hk, by omega⟩

set_option maxHeartbeats 400000 in
theorem same_any (S1 S2 : Nat → Prop) (v1 v2 : Value) (xs ys : List Int) (w : World) (h1 : Sl w S1 1 v1 xs.length (xs.map (Value.int .i64))) (h2 : Sl w S2 1 v2 ys.length (ys.map (Value.int .i64))) (hl : xs.length ≤ 1000000) (hl2 : ys.length ≤ 1000000) (r : Bool) (hr : r = decide (xs = ys)) :
    Calls Try.prog 33 #[v1, v2] w (RetW (.bool r) fun w' => Chg NoB w w') := by
  obtain ⟨p1, c1, rfl, hn1, hc1⟩ := h1.shape
  obtain ⟨p2, c2, rfl, hn2, hc2⟩ := h2.shape
  clear h1 h2
  by_cases hne : xs.length = ys.length
  · have hb : ((xs.length : Int) != (ys.length : Int)) = false := by simp; omega
    have HN := Lib.hid hne
    have HR := Lib.hid hr
    clear hne hr
    go_enter Try.func33, Try.ntmps33
    go_wp2
    go_loopw [13] (fun i wr => ∃ k : Nat, k ≤ xs.length ∧ i = .int .i64 k ∧ xs.take k = ys.take k ∧ Chg NoB w wr) (fun i _ => xs.length - (intOf i).toNat)
    case atStart => exact ⟨0, Nat.zero_le _, rfl, rfl, Chg.refl _ _⟩
    case round =>
      obtain ⟨k, hk, rfl, htk, C1⟩ := hrel
      have HT := Lib.hid htk
      clear htk
      by_cases hlt : k < xs.length
      · obtain ⟨g1, o1, rfl, -, -, q1⟩ := hc1 (by omega)
        obtain ⟨g2, o2, rfl, -, -, q2⟩ := hc2 (by have := HN.out; omega)
        have hlt2 : k < ys.length := by have := HN.out; omega
        have hx : xs[k]? = some xs[k] := List.getElem?_eq_getElem hlt
        have hy : ys[k]? = some ys[k] := List.getElem?_eq_getElem hlt2
        have e1 := C1.cell (q1 k _ (by rw [List.getElem?_map, hx]; rfl)) id
        have e2 := C1.cell (q2 k _ (by rw [List.getElem?_map, hy]; rfl)) id
        have b1 : (k : Int) < xs.length := by omega
        have b2 : (k : Int) < ys.length := by omega
        have b0 : (0 : Int) ≤ k := by omega
        generalize hxx : xs[k] = x at *
        generalize hyy : ys[k] = y at *
        have HX := Lib.hid hx
        have HY := Lib.hid hy
        clear hc1 hc2 q1 q2 hx hy hxx hyy
        by_cases hxy : x = y
        · have hbx : (x != y) = false := by simp [hxy]
          have HXY := Lib.hid hxy
          clear hxy
          go_wp2_with fail
          go_quiet (fail)
          go_wp2
          go_roundw
          case rel => exact ⟨k + 1, by omega, by go_num, by rw [List.take_add_one, List.take_add_one, HT.out, HX.out, HY.out, HXY.out], C1.drewN _⟩
          case measure => simp [intOf]; omega
        · have hbx : (x != y) = true := by simp [hxy]
          go_wp2_with fail
          go_quiet (fail)
          go_wp2
          go_ret
          refine ⟨?_, C1.drewN _⟩
          rw [HR.out]
          have : xs ≠ ys := fun e => hxy (by have := HX.out; rw [e, HY.out] at this; exact (Option.some.inj this).symm)
          simp [this]
      · obtain rfl : k = xs.length := by omega
        clear hc1 hc2
        go_wp2
        go_ret
        refine ⟨?_, C1⟩
        have := HT.out
        rw [List.take_length, HN.out, List.take_length] at this
        rw [HR.out]; simp [this]
  · have hb : ((xs.length : Int) != (ys.length : Int)) = true := by simp; omega
    go_enter Try.func33, Try.ntmps33
    go_wp2
    go_ret
    refine ⟨?_, Chg.refl _ _⟩
    rw [hr]
    have : xs ≠ ys := fun e => hne (by rw [e])
    simp [this]
end Go.Proofs.Ytokigldggkkbcaa
