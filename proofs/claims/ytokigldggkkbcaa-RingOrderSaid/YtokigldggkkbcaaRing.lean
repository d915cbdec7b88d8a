/- Rings of ints and of strings: what each method does, said of the ring's memory. No condition beyond the stated ones. -/
import Derived.Test.YtokigldggkkbcaaProg
import Derived.Test.YtokigldggkkbcaaKit
set_option linter.unusedVariables false
namespace Go.Proofs.Ytokigldggkkbcaa
open Go.RowKit Go.RR

/-- A ring lies in block b, all its memory in S. -/
def RingAt {α : Type} (T E : TypeId) (enc : α → Value) (S : Nat → Prop) (w : World) (b : Nat) (xs : List α) (room : Nat) : Prop :=
  ∃ (len first : Nat) (s : Option Addr), S b ∧ Blk w b #[.slice s len len, .int .i64 first, .int .i64 xs.length, .int .i64 room] T ∧ xs.length ≤ room ∧ room ≤ 65536 ∧
    ((len = 0 ∧ s = none ∧ first = 0 ∧ xs = []) ∨
     ∃ g cur, s = some ⟨g, 0, none⟩ ∧ S g ∧ g ≠ b ∧ Blk w g cur E ∧ cur.size = len ∧ first < len ∧ xs.length ≤ len ∧ len ≤ 65536 ∧
       ∀ (i : Nat) (x : α), xs[i]? = some x → cur[(first + i) % len]? = some (enc x))

theorem RingAt.chg {α : Type} {T E : TypeId} {enc : α → Value} {S S' : Nat → Prop} {w w' : World} {b : Nat} {xs : List α} {room : Nat} (h : RingAt T E enc S w b xs room) (c : Chg S' w w') (hs : ∀ k, S k → ¬ S' k) : RingAt T E enc S w' b xs room := by
  obtain ⟨len, first, s, hb, hB, h1, h2, h3⟩ := h
  refine ⟨len, first, s, hb, c.blk hB (hs b hb), h1, h2, ?_⟩
  rcases h3 with h3 | ⟨g, cur, e, hg, hne, hG, h4⟩
  · exact .inl h3
  · exact .inr ⟨g, cur, e, hg, hne, c.blk hG (hs g hg), h4⟩

theorem RingAt.mono {α : Type} {T E : TypeId} {enc : α → Value} {S S' : Nat → Prop} {w : World} {b : Nat} {xs : List α} {room : Nat} (h : RingAt T E enc S w b xs room) (hs : ∀ k, S k → S' k) : RingAt T E enc S' w b xs room := by
  obtain ⟨len, first, s, hb, hB, h1, h2, h3⟩ := h
  refine ⟨len, first, s, hs b hb, hB, h1, h2, ?_⟩
  rcases h3 with h3 | ⟨g, cur, e, hg, hne, hG, h4⟩
  · exact .inl h3
  · exact .inr ⟨g, cur, e, hs g hg, hne, hG, h4⟩

theorem RingAt.bound {α : Type} {T E : TypeId} {enc : α → Value} {S S' : Nat → Prop} {w : World} {b : Nat} {xs : List α} {room : Nat} (h : RingAt T E enc S w b xs room) (hs : ∀ k, k < w.heap.size → S k → S' k) : RingAt T E enc S' w b xs room := by
  obtain ⟨len, first, s, hb, hB, h1, h2, h3⟩ := h
  refine ⟨len, first, s, hs b hB.lt hb, hB, h1, h2, ?_⟩
  rcases h3 with h3 | ⟨g, cur, e, hg, hne, hG, h4⟩
  · exact .inl h3
  · exact .inr ⟨g, cur, e, hs g hG.lt hg, hne, hG, h4⟩

def GrowPost {α : Type} (T E : TypeId) (enc : α → Value) (b : Nat) (xs : List α) (room : Nat) (w : World) (e : Ending) (w' : World) : Prop :=
  e = .returned (.tuple #[]) ∧ ∃ (g c : Nat) (cur : Array Value), w.heap.size ≤ g ∧ Blk w' b #[.slice (some ⟨g, 0, none⟩) c c, .int .i64 0, .int .i64 xs.length, .int .i64 room] T ∧
    Blk w' g cur E ∧ cur.size = c ∧ xs.length < c ∧ c ≤ 65536 ∧ (∀ (i : Nat) (x : α), xs[i]? = some x → cur[i]? = some (enc x)) ∧ Chg (· = b) w w'

def RetPtr (P : Nat → World → Prop) (e : Ending) (w' : World) : Prop := ∃ b, e = .returned (.pointer (some ⟨b, 0, none⟩)) ∧ P b w'
def RetW (v : Value) (P : World → Prop) (e : Ending) (w' : World) : Prop := e = .returned v ∧ P w'
def RetSl (P : Value → World → Prop) (e : Ending) (w' : World) : Prop := ∃ v, e = .returned v ∧ P v w'

theorem mod_small (f i len : Nat) (hf : f < len) (hi : i ≤ len) : (f + i) % len = if f + i < len then f + i else f + i - len := by
  split
  · exact Nat.mod_eq_of_lt ‹_›
  · rw [Nat.mod_eq_sub_mod (by omega), Nat.mod_eq_of_lt (by omega)]

theorem ring_push {α : Type} {enc : α → Value} {cur : Array Value} {first len k : Nat} {xs : List α} (v : α) (hs : cur.size = len) (hf : first < len) (hn : xs.length < len) (hk : (first + xs.length) % len = k)
    (h : ∀ (i : Nat) (x : α), xs[i]? = some x → cur[(first + i) % len]? = some (enc x)) : ∀ (i : Nat) (x : α), (xs ++ [v])[i]? = some x → (cur.setIfInBounds k (enc v))[(first + i) % len]? = some (enc x) := by
  intro i x hx
  have hkl : k < len := hk ▸ Nat.mod_lt _ (by omega)
  rw [List.getElem?_append] at hx
  split at hx
  · rename_i hi
    have hne : k ≠ (first + i) % len := by
      rw [mod_small _ _ _ hf (by omega)] at hk
      rw [mod_small _ _ _ hf (by omega)]
      split at hk <;> split <;> omega
    rw [Array.getElem?_setIfInBounds_ne hne]
    exact h i x hx
  · have hi : i = xs.length := by
      have := (List.getElem?_eq_some_iff.1 hx).1
      simp at this; omega
    subst hi
    simp at hx
    subst hx
    rw [hk, Array.getElem?_setIfInBounds_self_of_lt (by omega)]

theorem ring_pop {α : Type} {enc : α → Value} {cur : Array Value} {first len : Nat} {x : α} {t : List α} (z : Value) (hs : cur.size = len) (hf : first < len) (hn : (x :: t).length ≤ len)
    (h : ∀ (i : Nat) (y : α), (x :: t)[i]? = some y → cur[(first + i) % len]? = some (enc y)) : ∀ (i : Nat) (y : α), t[i]? = some y → (cur.setIfInBounds first z)[((first + 1) % len + i) % len]? = some (enc y) := by
  intro i y hy
  have hi := (List.getElem?_eq_some_iff.1 hy).1
  simp only [List.length_cons] at hn
  have e : ((first + 1) % len + i) % len = (first + (i + 1)) % len := by rw [Nat.mod_add_mod]; congr 1; omega
  have hne : first ≠ (first + (i + 1)) % len := by
    rw [mod_small _ _ _ hf (by omega)]
    split <;> omega
  rw [e, Array.getElem?_setIfInBounds_ne hne]
  exact h (i + 1) y (by simpa using hy)

theorem i_info : (Try.prog.info? 3).map (fun i => (i.zero, i.size, i.bytes)) = some (some (.int .i64 0), 1, 8) := by kernel_rfl

set_option maxHeartbeats 400000 in
theorem i_place (b : Nat) (s : Option Addr) (len cap f : Nat) (i : Int) (j k : Nat) (w : World)
   (h0 : w.cell? ⟨b, 0, none⟩ = some (.slice s len cap)) (h1 : w.cell? ⟨b, 1, none⟩ = some (.int .i64 f))
   (hij : i = j) (hk : (f + j) % len = k) (hf2 : f ≤ 100000) (hi2 : j ≤ 100000) (hl : 0 < len) (hl2 : len ≤ 100000) :
    Calls Try.prog 70 #[.pointer (some ⟨b, 0, none⟩), .int .i64 i] w fun e w' => e = .returned (.int .i64 k) ∧ ∃ n, w.drewN n = w' := by
  subst hij
  have HK := Lib.hid hk
  clear hk
  go_enter Try.func70, Try.ntmps70
  go_wp2
  go_quiet (fail)
  go_wp2
  go_ret
  exact ⟨by rw [← HK.out]; simp, _, rfl⟩

theorem i_len_any (b : Nat) (n : Int) (w : World) (h1 : w.cell? ⟨b, 2, none⟩ = some (.int .i64 n)) :
    Calls Try.prog 30 #[.pointer (some ⟨b, 0, none⟩)] w fun e w' => e = .returned (.int .i64 n) ∧ w = w' := by
  go_enter Try.func30, Try.ntmps30
  go_wp2
  go_ret
  exact ⟨rfl, rfl⟩

set_option maxHeartbeats 400000 in
theorem i_at_out (b : Nat) (n i : Int) (w : World) (h1 : w.cell? ⟨b, 2, none⟩ = some (.int .i64 n)) (hi : i < 0 ∨ n ≤ i) :
    Calls Try.prog 29 #[.pointer (some ⟨b, 0, none⟩), .int .i64 i] w fun e w' => e = .returned (.tuple #[.int .i64 0, .bool false]) ∧ w = w' := by
  rcases hi with hi | hi
  · have hd : decide (i < 0) = true := by simpa using hi
    go_enter Try.func29, Try.ntmps29
    go_wp2
    go_ret2
    exact ⟨rfl, rfl⟩
  · by_cases hi' : i < 0
    · go_enter Try.func29, Try.ntmps29
      go_wp2
      go_ret2
      exact ⟨rfl, rfl⟩
    · go_enter Try.func29, Try.ntmps29
      go_wp2
      go_ret2
      exact ⟨rfl, rfl⟩

set_option maxHeartbeats 400000 in
theorem i_at_in (b g : Nat) (len cap f n k : Nat) (i : Int) (j : Nat) (v : Value) (w : World)
   (h0 : w.cell? ⟨b, 0, none⟩ = some (.slice (some ⟨g, 0, none⟩) len cap)) (h1 : w.cell? ⟨b, 1, none⟩ = some (.int .i64 f)) (h2 : w.cell? ⟨b, 2, none⟩ = some (.int .i64 n))
   (hij : i = j) (hk : (f + j) % len = k) (hf2 : f < len) (hi : j < n) (hn : n ≤ len) (hl2 : len ≤ 65536) (hv : w.cell? ⟨g, k, none⟩ = some v) :
    Calls Try.prog 29 #[.pointer (some ⟨b, 0, none⟩), .int .i64 i] w fun e w' => e = .returned (.tuple #[v, .bool true]) ∧ ∃ n, w.drewN n = w' := by
  subst hij
  have hm : (k : Int) < len := by have := Nat.mod_lt (f + j) (show 0 < len by omega); omega
  have hm0 : (0 : Int) ≤ k := by omega
  have HK := Lib.hid hk
  clear hk
  go_enter Try.func29, Try.ntmps29
  go_wp2_with fail
  go_quiet ((go_at_call 70; exact quiet' (i_place b _ len cap f _ j k _ h0 h1 rfl HK.out (by omega) (by omega) (by omega) (by omega))))
  go_wp2
  go_ret2
  exact ⟨rfl, _, rfl⟩

set_option maxHeartbeats 1000000 in
set_option maxRecDepth 100000 in
theorem i_grow (S : Nat → Prop) (b : Nat) (xs : List Int) (room : Nat) (w : World) (h : RingAt 118 3 (Value.int .i64) S w b xs room) (hn : xs.length < room) :
    Calls Try.prog 71 #[.pointer (some ⟨b, 0, none⟩)] w (GrowPost 118 3 (Value.int .i64) b xs room w) := by
  obtain ⟨i0, hi0, hz0, hz1, hz2⟩ := info_parts i_info
  obtain ⟨len, first, s, hSb, hB, hr, hr2, hd⟩ := h
  have h0 := hB.cell' (i := 0) (by rfl)
  have h1 := hB.cell' (i := 1) (by rfl)
  have h2 := hB.cell' (i := 2) (by rfl)
  have h3 := hB.cell' (i := 3) (by rfl)
  have hw : IntKind.i64.wrap (2 * (xs.length : Int)) = 2 * (xs.length : Int) := IntWalk.i64_in _ (by omega)
  obtain ⟨m, hm⟩ : ∃ m : Nat, (if (room : Int) < 2 * (xs.length : Int) then (room : Int) else 2 * (xs.length : Int)) = m := by
    by_cases h : (room : Int) < 2 * (xs.length : Int)
    · exact ⟨room, by rw [if_pos h]⟩
    · exact ⟨2 * xs.length, by rw [if_neg h]; omega⟩
  have hm2 : m ≤ room ∧ xs.length ≤ m ∧ (0 < xs.length → xs.length < m) := by
    split at hm <;> omega
  obtain ⟨c, hc⟩ : ∃ c : Nat, (if (4 : Int) < (m : Int) then (m : Int) else 4) = c := by
    by_cases h : (4 : Int) < m
    · exact ⟨m, by rw [if_pos h]⟩
    · exact ⟨4, by rw [if_neg h]; rfl⟩
  have hc2 : 4 ≤ c ∧ m ≤ c ∧ (c = m ∨ c = 4) := by
    split at hc <;> omega
  go_enter Try.func71, Try.ntmps71
  go_wp2_with fail
  refine wp_region_plan 11 [] [0, 1, 2, 3, 4, 5, 6, 7, 8, 9, 10] (by kernel_rfl) (by kernel_rfl) (fun _ _ _ _ _ h => h) ?_
  simp only [pickOps_nil, pickOps_cons, Option.getD_some, List.getElem?_toArray, List.getElem?_cons_zero, List.getElem?_cons_succ, List.cons_append, List.nil_append, List.drop_succ_cons, List.drop_zero]
  repeat (go_big_quiet_step (fail))
  refine wpQuiet_nil ?_
  intro w0 hw0
  have C0 := Chg.of_ex hw0
  clear hw0
  obtain ⟨w1, hmk, hown, hg⟩ := run_make_own (P := Try.prog) w0 w0.heap.size 47 3 i0 _ 1 Try.underlying47 hi0 hz0 hz1 .i64 .i64 c (by rw [hz2]; omega) (by unfold maxLen; omega) (Nat.le_refl _)
  have C1 : Chg NoB w w1 := C0.grown hg (by simp)
  have hH : w.heap.size ≤ w0.heap.size := C0.size
  obtain ⟨G, hG0⟩ : ∃ G, G = w0.heap.size := ⟨_, rfl⟩
  rw [← hG0] at hmk hown hH
  clear hG0 hg C0
  have g0 := C1.cell h0 id
  have g1 := C1.cell h1 id
  have g2 := C1.cell h2 id
  have g3 := C1.cell h3 id
  have HM := Lib.hid hm
  have HC := Lib.hid hc
  clear hm hc h0 h1 h2 h3
  go_wp2_with fail
  go_loopw [2, 20] (fun l i wr => ∃ k : Nat, k ≤ xs.length ∧ i = .int .i64 k ∧ l = .slice (some ⟨G, 0, none⟩) k c ∧ wr.ownsRow G 3 1 l k ((xs.take k).map (Value.int .i64)) ∧ Chg NoB w wr) (fun _ i _ => xs.length - (intOf i).toNat)
  case atStart => exact ⟨0, Nat.zero_le _, rfl, rfl, hown, C1⟩
  case round =>
    obtain ⟨k, hk, rfl, rfl, hown', C2⟩ := hrel
    clear hown C1 g0 g1 g2 g3 hmk
    have g0 : wr.cell? ⟨b, 0, none⟩ = some (.slice s len len) := C2.cell (hB.cell' (i := 0) (by rfl)) id
    have g1 : wr.cell? ⟨b, 1, none⟩ = some (.int .i64 first) := C2.cell (hB.cell' (i := 1) (by rfl)) id
    by_cases hlt : k < xs.length
    · obtain ⟨g, cur, rfl, hSg, hgb, hG, hcs, hf, hxl, hl65, hcell⟩ := hd.resolve_left (fun h => by rw [h.2.2.2] at hlt; simp at hlt)
      obtain ⟨j, hj⟩ : ∃ j, (first + k) % len = j := ⟨_, rfl⟩
      have hjl : (j : Int) < len := by have := Nat.mod_lt (first + k) (show 0 < len by omega); omega
      have hj0 : (0 : Int) ≤ j := by omega
      obtain ⟨x, hx⟩ : ∃ x, xs[k]? = some x := ⟨xs[k], by simp [hlt]⟩
      have hv := C2.cell (hG.cell' (i := j) (by rw [← hj]; exact hcell k x hx)) id
      have HJ := Lib.hid hj
      have HX := Lib.hid hx
      have HCS := Lib.hid hcs
      clear hj hx hcs hcell hd
      go_wp2_with fail
      refine wp_region_plan 10 [0] [1, 2, 3, 4, 5, 6, 7, 8, 9] (by kernel_rfl) (by kernel_rfl) (fun _ _ _ _ _ h => h) ?_
      simp only [pickOps_nil, pickOps_cons, Option.getD_some, List.getElem?_toArray, List.getElem?_cons_zero, List.getElem?_cons_succ, List.cons_append, List.nil_append, List.drop_succ_cons, List.drop_zero]
      repeat (go_big_quiet_step ((go_at_call 70; exact quiet' (i_place b _ len len first _ k j _ g0 g1 rfl HJ.out (by omega) (by omega) (by omega) (by omega)))))
      refine wpQuiet_nil ?_
      intro w3 hw3
      have C3 := Chg.of_ex hw3
      clear hw3
      have hownA : (w3.alloc (.cells #[Value.int .i64 x] 3)).ownsRow G 3 1 (.slice (some ⟨G, 0, none⟩) k c) k ((xs.take k).map (Value.int .i64)) := (C3.owns hown').alloc _
      have h1c : ∀ u ∈ [Value.int .i64 x], u.oneCell' = true := by simp [Value.oneCell']
      have hroom : k + 1 ≤ c := by omega
      clear hown'
      go_wp2_with (at_builtin; go_must (refine wpList_append_own_spare _ rfl _ _ 47 rfl G 3 i0 1 Try.underlying47 hi0 hz1 G k c _ rfl hownA ⟨w3.heap.size, 0, none⟩ 1 1 [Value.int .i64 x] rfl rfl (cell_one_new _ _ _) h1c hroom ?_); intro w4 hown4 hg4)
      go_roundw
      case rel =>
        refine ⟨k + 1, by omega, by go_num, rfl, ?_, ?_⟩
        · rw [List.take_add_one, HX.out, List.map_append]; exact hown4
        · exact ((C2.then0 C3).alloc _).grown hg4 (fun q hq => by cases hq; exact .inr hH)
      case measure => simp [intOf]; omega
    · obtain rfl : k = xs.length := by omega
      have hB' := C2.blk0 hB
      have k0 := hB'.frozen 0
      have k1 := hB'.frozen 1
      clear hd
      go_wp2_with fail
      go_end0
      obtain ⟨hln, hv | ⟨G', cap', cur, hv, hGb, hGc, hnc, hcm, hcs, htk⟩⟩ := hown'
      · cases hv.1
      cases hv
      have hGC : Blk wr G cur 3 := hGc
      have hbG : b ≠ G := by have := hB.lt; omega
      refine ⟨rfl, G, c, cur, hH, ?_, (hGC.set_ne (by simpa using hbG.symm) _).set_ne (by simpa using hbG.symm) _, by omega, by omega, by omega, ?_, ?_⟩
      · exact (hB'.set 0 _).set 1 _
      · intro i x hx
        have hl := (List.getElem?_eq_some_iff.1 hx).1
        rw [List.take_length, Nat.mul_one] at htk
        have : cur.toList[i]? = some (Value.int .i64 x) := by
          have h2 : (cur.toList.take xs.length)[i]? = some (Value.int .i64 x) := by rw [htk, List.getElem?_map, hx]; rfl
          rw [List.getElem?_take] at h2
          simpa [hl] using h2
        simpa using this
      · exact ((C2.mono (S' := (· = b)) (fun _ _ h => h.elim)).setCell (.inl rfl) _).setCell (.inl rfl) _

theorem i_push_full (b : Nat) (n room : Int) (v : Value) (w : World) (h2 : w.cell? ⟨b, 2, none⟩ = some (.int .i64 n)) (h3 : w.cell? ⟨b, 3, none⟩ = some (.int .i64 room)) (hn : room ≤ n) :
    Calls Try.prog 27 #[.pointer (some ⟨b, 0, none⟩), v] w fun e w' => e = .returned (.bool false) ∧ ∃ n, w.drewN n = w' := by
  go_enter Try.func27, Try.ntmps27
  go_wp2_with fail
  go_quiet (fail)
  go_wp2
  go_ret
  exact ⟨rfl, _, rfl⟩


set_option maxHeartbeats 1000000 in
set_option maxRecDepth 100000 in
theorem i_push_ok (S : Nat → Prop) (b : Nat) (xs : List Int) (room : Nat) (v : Int) (w : World) (h : RingAt 118 3 (Value.int .i64) S w b xs room) (hn : xs.length < room) :
    Calls Try.prog 27 #[.pointer (some ⟨b, 0, none⟩), Value.int .i64 v] w (RetW (.bool true) fun w' => RingAt 118 3 (Value.int .i64) (Grow S w) w' b (xs ++ [v]) room ∧ Chg S w w') := by
  have hR := h
  obtain ⟨len, first, s, hSb, hB, hr, hr2, hd⟩ := h
  have h0 : w.cell? ⟨b, 0, none⟩ = some (.slice s len len) := hB.cell' (i := 0) (by rfl)
  have h1 : w.cell? ⟨b, 1, none⟩ = some (.int .i64 first) := hB.cell' (i := 1) (by rfl)
  have h2 : w.cell? ⟨b, 2, none⟩ = some (.int .i64 xs.length) := hB.cell' (i := 2) (by rfl)
  have h3 : w.cell? ⟨b, 3, none⟩ = some (.int .i64 room) := hB.cell' (i := 3) (by rfl)
  have hn1 : (xs.length : Int) < room := by omega
  by_cases hfull : xs.length = len
  · have hful : ((xs.length : Int) == (len : Int)) = true := by simp; omega
    have HF := Lib.hid hfull
    clear hfull hd
    go_enter Try.func27, Try.ntmps27
    go_wp2_with fail
    go_quiet (fail)
    go_wp2_with fail
    go_quiet (fail)
    go_wp2_with fail
    refine (i_grow S b xs room _ (by exact hR) hn).mono ?_
    rintro e w1 ⟨rfl, g, c, cur, hG', hB1, hG1, hcs, hc, hc2, hcell, C0'⟩
    have C0 := C0'.undrewN
    have hG : w.heap.size ≤ g := hG'
    clear hG' C0'
    clear h0 h1 h2 h3 hful
    have k2 := hB1.cell' (i := 2) (v := .int .i64 xs.length) (by rfl)
    have k2f := hB1.frozen 2
    go_wp2_with fail
    have hSg : Grow S w g := .inr hG
    have hgb : g ≠ b := by have := hB.lt; omega
    have hnl : xs.length < c := hc
    have hf : 0 < c := by omega
    obtain ⟨k, hk⟩ : ∃ k, (0 + xs.length) % c = k := ⟨_, rfl⟩
    have hkl : (k : Int) < c := by have := Nat.mod_lt (0 + xs.length) hf; omega
    have hk0 : (0 : Int) ≤ k := by omega
    have hcell' : ∀ (i : Nat) (x : Int), xs[i]? = some x → cur[(0 + i) % c]? = some (Value.int .i64 x) := fun i x hx => by
      have := (List.getElem?_eq_some_iff.1 hx).1
      rw [Nat.zero_add, Nat.mod_eq_of_lt (by omega)]; exact hcell i x hx
    have C1 : Chg S w w1 := C0.mono fun k _ h => h ▸ hSb
    have HK := Lib.hid hk
    have HC := Lib.hid hcell'
    have HS := Lib.hid hcs
    clear hk hcell hcell' hcs k2 k2f hB C0 hR
    have hk2 : k < cur.size := by have := HS.out; omega
    have i0 := (Blk.set hB1 2 (.int .i64 (xs.length + 1)))
    have i1 := hG1.set_ne (a := ⟨b, 2, none⟩) (by simpa using hgb) (.int .i64 (xs.length + 1))
    have j0 := i0.cell' (i := 0) (v := .slice (some ⟨g, 0, none⟩) c c) (by rfl)
    have j1 := i0.cell' (i := 1) (v := .int .i64 0) (by rfl)
    have j2 := i0.cell' (i := 2) (v := .int .i64 (xs.length + 1)) (by rfl)
    have j3 := i1.cell' (i := k) (v := cur[k]) (by simp [hk2])
    have j4 := i1.frozen k
    have HI := Lib.hid i0
    have HG := Lib.hid i1
    clear i0 i1 hB1 hG1
    generalize hW : World.setCell _ _ _ = w2 at *
    refine wp_region_plan 13 [] [0, 1, 2, 3, 4, 5, 6, 7, 8, 9, 10, 11, 12] (by kernel_rfl) (by kernel_rfl) (fun _ _ _ _ _ h => h) ?_
    simp only [pickOps_nil, pickOps_cons, Option.getD_some, List.getElem?_toArray, List.getElem?_cons_zero, List.getElem?_cons_succ, List.cons_append, List.nil_append, List.drop_succ_cons, List.drop_zero]
    repeat (go_big_quiet_step ((go_at_call 70; exact quiet' (i_place b _ c c 0 _ xs.length k _ j0 j1 (by simp) HK.out (by omega) (by omega) (by omega) (by omega)))))
    refine wpQuiet_nil ?_
    intro w3 hw3
    have C3 := Chg.of_ex hw3
    clear hw3
    have j5 := C3.cell j3 id
    have j6 : w3.frozen? ⟨g, k, none⟩ = false := (C3.blk0 HG.out).frozen k
    clear j0 j1 j2 j3 j4
    go_wp2
    go_ret
    have hb3 := C3.blk0 HI.out
    have hg3 := C3.blk0 HG.out
    refine ⟨rfl, ⟨c, 0, some ⟨g, 0, none⟩, .inl hSb, ?_, by simp; omega, hr2, .inr ⟨g, cur.setIfInBounds k (Value.int .i64 v), rfl, hSg, hgb, hg3.set k _, by simpa using HS.out, hf, by simp; omega, by omega, ring_push v HS.out hf hnl HK.out HC.out⟩⟩, ?_⟩
    · have := hb3.set_ne (a := ⟨g, k, none⟩) (by simpa using hgb.symm) (Value.int .i64 v)
      simpa using this
    · rw [← hW] at C3
      exact ((C1.setCell (a := ⟨b, 2, none⟩) (.inl hSb) _).then0 C3).setCell (a := ⟨g, k, none⟩) hSg _
  · obtain ⟨g, cur, rfl, hSg, hgb, hG1, hcs, hf, hxl, hl65, hcell⟩ := hd.resolve_left (fun h => by rw [h.2.2.2, h.1] at hfull; simp at hfull)
    clear hd
    have hful : ((xs.length : Int) == (len : Int)) = false := by simp; omega
    have hnl : xs.length < len := by omega
    obtain ⟨k, hk⟩ : ∃ k, (first + xs.length) % len = k := ⟨_, rfl⟩
    have hkl : (k : Int) < len := by have := Nat.mod_lt (first + xs.length) (show 0 < len by omega); omega
    have hk0 : (0 : Int) ≤ k := by omega
    have HK := Lib.hid hk
    have HC := Lib.hid hcell
    have HS := Lib.hid hcs
    have HF := Lib.hid hfull
    have k2f := hB.frozen 2
    clear hk hcell hcs hfull
    go_enter Try.func27, Try.ntmps27
    go_wp2_with fail
    go_quiet (fail)
    go_wp2_with fail
    go_quiet (fail)
    go_wp2_with fail
    generalize hw1 : w.drewN _ = w1
    have hB1 : Blk w1 b #[.slice (some ⟨g, 0, none⟩) len len, .int .i64 first, .int .i64 xs.length, .int .i64 room] 118 := hw1 ▸ hB
    have hG1' : Blk w1 g cur 3 := hw1 ▸ hG1
    have C1 : Chg S w w1 := hw1 ▸ (Chg.refl S w).drewN _
    clear hw1
    clear hB h0 h1 h2 h3 k2f hR hG1
    have hSg : Grow S w g := .inl hSg
    have hG1 := hG1'
    clear hG1'
    have hk2 : k < cur.size := by have := HS.out; omega
    have i0 := (Blk.set hB1 2 (.int .i64 (xs.length + 1)))
    have i1 := hG1.set_ne (a := ⟨b, 2, none⟩) (by simpa using hgb) (.int .i64 (xs.length + 1))
    have j0 := i0.cell' (i := 0) (v := .slice (some ⟨g, 0, none⟩) len len) (by rfl)
    have j1 := i0.cell' (i := 1) (v := .int .i64 first) (by rfl)
    have j2 := i0.cell' (i := 2) (v := .int .i64 (xs.length + 1)) (by rfl)
    have j3 := i1.cell' (i := k) (v := cur[k]) (by simp [hk2])
    have j4 := i1.frozen k
    have HI := Lib.hid i0
    have HG := Lib.hid i1
    clear i0 i1 hB1 hG1
    generalize hW : World.setCell _ _ _ = w2 at *
    refine wp_region_plan 13 [] [0, 1, 2, 3, 4, 5, 6, 7, 8, 9, 10, 11, 12] (by kernel_rfl) (by kernel_rfl) (fun _ _ _ _ _ h => h) ?_
    simp only [pickOps_nil, pickOps_cons, Option.getD_some, List.getElem?_toArray, List.getElem?_cons_zero, List.getElem?_cons_succ, List.cons_append, List.nil_append, List.drop_succ_cons, List.drop_zero]
    repeat (go_big_quiet_step ((go_at_call 70; exact quiet' (i_place b _ len len first _ xs.length k _ j0 j1 (by simp) HK.out (by omega) (by omega) (by omega) (by omega)))))
    refine wpQuiet_nil ?_
    intro w3 hw3
    have C3 := Chg.of_ex hw3
    clear hw3
    have j5 := C3.cell j3 id
    have j6 : w3.frozen? ⟨g, k, none⟩ = false := (C3.blk0 HG.out).frozen k
    clear j0 j1 j2 j3 j4
    go_wp2
    go_ret
    have hb3 := C3.blk0 HI.out
    have hg3 := C3.blk0 HG.out
    refine ⟨rfl, ⟨len, first, some ⟨g, 0, none⟩, .inl hSb, ?_, by simp; omega, hr2, .inr ⟨g, cur.setIfInBounds k (Value.int .i64 v), rfl, hSg, hgb, hg3.set k _, by simpa using HS.out, hf, by simp; omega, by omega, ring_push v HS.out hf hnl HK.out HC.out⟩⟩, ?_⟩
    · have := hb3.set_ne (a := ⟨g, k, none⟩) (by simpa using hgb.symm) (Value.int .i64 v)
      simpa using this
    · rw [← hW] at C3
      exact ((C1.setCell (a := ⟨b, 2, none⟩) (.inl hSb) _).then0 C3).setCell (a := ⟨g, k, none⟩) hSg _

theorem i_pop_no (b : Nat) (w : World) (h2 : w.cell? ⟨b, 2, none⟩ = some (.int .i64 0)) :
    Calls Try.prog 25 #[.pointer (some ⟨b, 0, none⟩)] w fun e w' => e = .returned (.tuple #[.int .i64 0, .bool false]) ∧ w = w' := by
  go_enter Try.func25, Try.ntmps25
  go_wp2_with (go_at_call 29; refine (i_at_out b 0 0 w h2 (.inr (by omega))).mono ?_; rintro e w' ⟨rfl, rfl⟩)
  go_ret2
  exact ⟨rfl, rfl⟩

set_option maxHeartbeats 1000000 in
set_option maxRecDepth 100000 in
theorem i_pop_ok (S : Nat → Prop) (b : Nat) (x : Int) (t : List Int) (room : Nat) (w : World) (h : RingAt 118 3 (Value.int .i64) S w b (x :: t) room) :
    Calls Try.prog 25 #[.pointer (some ⟨b, 0, none⟩)] w (RetW (.tuple #[Value.int .i64 x, .bool true]) fun w' => RingAt 118 3 (Value.int .i64) S w' b t room ∧ Chg S w w') := by
  obtain ⟨len, first, s, hSb, hB, hr, hr2, hd⟩ := h
  obtain ⟨g, cur, rfl, hSg, hgb, hG, hcs, hf, hxl, hl65, hcell⟩ := hd.resolve_left (fun h => by cases h.2.2.2)
  clear hd
  have h0 : w.cell? ⟨b, 0, none⟩ = some (.slice (some ⟨g, 0, none⟩) len len) := hB.cell' (i := 0) (by rfl)
  have h1 : w.cell? ⟨b, 1, none⟩ = some (.int .i64 first) := hB.cell' (i := 1) (by rfl)
  have h2 : w.cell? ⟨b, 2, none⟩ = some (.int .i64 (x :: t).length) := hB.cell' (i := 2) (by rfl)
  have hv : w.cell? ⟨g, first, none⟩ = some (Value.int .i64 x) := hG.cell' (by have := hcell 0 x rfl; rwa [Nat.add_zero, Nat.mod_eq_of_lt hf] at this)
  have hHf := Lib.hid (hcell 0 x rfl)
  have hfi : (first : Int) < len := by omega
  have hxl' : t.length + 1 ≤ len := by simpa using hxl
  have hr' : t.length + 1 ≤ room := by simpa using hr
  have HC := Lib.hid hcell
  have HS := Lib.hid hcs
  clear hcell hcs
  go_enter Try.func25, Try.ntmps25
  go_wp2_with fail
  refine (i_at_in b g len len first (x :: t).length first 0 0 _ _ h0 h1 h2 rfl (by rw [Nat.add_zero, Nat.mod_eq_of_lt hf]) hf (by simp) (by simpa using hxl') hl65 hv).mono ?_
  rintro e w1 ⟨rfl, n1, hn1⟩
  have hB1 : Blk w1 b #[.slice (some ⟨g, 0, none⟩) len len, .int .i64 first, .int .i64 (x :: t).length, .int .i64 room] 118 := hn1 ▸ hB
  have hG1 : Blk w1 g cur 3 := hn1 ▸ hG
  have C1 : Chg S w w1 := hn1 ▸ (Chg.refl S w).drewN _
  have i0 : w1.cell? ⟨b, 0, none⟩ = some (.slice (some ⟨g, 0, none⟩) len len) := hB1.cell' (i := 0) (by rfl)
  have i1 : w1.cell? ⟨b, 1, none⟩ = some (.int .i64 first) := hB1.cell' (i := 1) (by rfl)
  have i3 : w1.cell? ⟨g, first, none⟩ = some (Value.int .i64 x) := hn1 ▸ hv
  clear hn1 h0 h1 h2 hv hB hG hr hxl
  go_wp2_with fail
  refine wp_region_plan 10 [] [0, 1, 2, 3, 4, 5, 6, 7, 8, 9] (by kernel_rfl) (by kernel_rfl) (fun _ _ _ _ _ h => h) ?_
  simp only [pickOps_nil, pickOps_cons, Option.getD_some, List.getElem?_toArray, List.getElem?_cons_zero, List.getElem?_cons_succ, List.cons_append, List.nil_append, List.drop_succ_cons, List.drop_zero]
  repeat (go_big_quiet_step (fail))
  refine wpQuiet_nil ?_
  intro w2 hw2
  have C2 := Chg.of_ex hw2
  clear hw2
  have hB2 := C2.blk0 hB1
  have hG2 := C2.blk0 hG1
  have j3 := C2.cell i3 id
  have j4 : w2.frozen? ⟨g, first, none⟩ = false := hG2.frozen first
  clear hB1 hG1 i0 i1 i3
  have hB3 := hB2.set_ne (a := ⟨g, first, none⟩) (by simpa using hgb.symm) (.int .i64 0)
  have hG3 := hG2.set first (.int .i64 0)
  have k0 : (w2.setCell ⟨g, first, none⟩ (.int .i64 0)).cell? ⟨b, 0, none⟩ = some (.slice (some ⟨g, 0, none⟩) len len) := hB3.cell' (i := 0) (by rfl)
  have k1 : (w2.setCell ⟨g, first, none⟩ (.int .i64 0)).cell? ⟨b, 1, none⟩ = some (.int .i64 first) := hB3.cell' (i := 1) (by rfl)
  have hH := Lib.hid hB3
  have hHG := Lib.hid hG3
  clear hB3 hG3 hB2 hG2
  go_wp2_with fail
  obtain ⟨f2, hf2⟩ : ∃ f2, (first + 1) % len = f2 := ⟨_, rfl⟩
  have hf2l : f2 < len := hf2 ▸ Nat.mod_lt _ (by omega)
  have HF := Lib.hid hf2
  clear hf2
  refine (i_place b _ len len first 1 1 f2 _ k0 k1 (by rfl) HF.out (by omega) (by omega) (by omega) (by omega)).mono ?_
  rintro e w3 ⟨rfl, n3, hn3⟩
  have hB4 : Blk w3 b #[.slice (some ⟨g, 0, none⟩) len len, .int .i64 first, .int .i64 (x :: t).length, .int .i64 room] 118 := hn3 ▸ hH.out
  have hG4 : Blk w3 g (cur.setIfInBounds first (.int .i64 0)) 3 := hn3 ▸ hHG.out
  have C3 : Chg S w w3 := hn3 ▸ (((C1.then0 C2).setCell (a := ⟨g, first, none⟩) (.inl hSg) _).drewN _)
  have l1 : w3.cell? ⟨b, 1, none⟩ = some (.int .i64 first) := hB4.cell' (i := 1) (by rfl)
  have l2 : w3.cell? ⟨b, 2, none⟩ = some (.int .i64 (t.length + 1)) := hB4.cell' (i := 2) (by rfl)
  have l1f := hB4.frozen 1
  have l2f := hB4.frozen 2
  have KB := Lib.hid hB4
  have KG := Lib.hid hG4
  clear hn3 k0 k1 hH hHG j3 j4 hB4 hG4
  go_wp2_with fail
  go_ret2
  refine ⟨rfl, ⟨len, f2, some ⟨g, 0, none⟩, hSb, ?_, by omega, hr2, .inr ⟨g, cur.setIfInBounds first (.int .i64 0), rfl, hSg, hgb, ?_, by simpa using HS.out, hf2l, by omega, hl65, ?_⟩⟩, ?_⟩
  · exact ((KB.out.set 1 _).set 2 _)
  · exact (KG.out.set_ne (by simpa using hgb) _).set_ne (by simpa using hgb) _
  · rw [← HF.out]; exact ring_pop _ HS.out hf (by simpa using hxl') HC.out
  · exact (C3.setCell (a := ⟨b, 1, none⟩) (.inl hSb) _).setCell (a := ⟨b, 2, none⟩) (.inl hSb) _

set_option maxHeartbeats 400000 in
theorem i_new_any (n : Int) (w : World) :
    Calls Try.prog 23 #[.int .i64 n] w (RetPtr fun b w' => b = w.heap.size ∧ RingAt 118 3 (Value.int .i64) (Grow NoB w) w' b [] (min (max n 0) 65536).toNat ∧ Chg NoB w w') := by
  go_enter Try.func23, Try.ntmps23
  go_wp2
  all_goals
    go_ret
    refine ⟨_, rfl, rfl, ⟨0, 0, none, .inr (Nat.le_refl _), ?_, Nat.zero_le _, by omega, .inl ⟨rfl, rfl, rfl, rfl⟩⟩, (Chg.refl _ _).alloc _⟩
    have e : ∀ k : Int, k = (min (max n 0) 65536) → Blk (w.alloc (.cells #[.slice none 0 0, .int .i64 0, .int .i64 0, .int .i64 k] 118)) w.heap.size #[.slice none 0 0, .int .i64 ((0 : Nat) : Int), .int .i64 (([] : List Int).length : Int), .int .i64 ((min (max n 0) 65536).toNat : Int)] 118 := fun k hk => by
      have := Blk.new w #[.slice none 0 0, .int .i64 0, .int .i64 0, .int .i64 k] 118
      rw [show ((min (max n 0) 65536).toNat : Int) = k by omega]
      exact this
    exact e _ (by omega)

theorem i_room_any (b : Nat) (n : Int) (w : World) (h1 : w.cell? ⟨b, 3, none⟩ = some (.int .i64 n)) :
    Calls Try.prog 31 #[.pointer (some ⟨b, 0, none⟩)] w fun e w' => e = .returned (.int .i64 n) ∧ w = w' := by
  go_enter Try.func31, Try.ntmps31
  go_wp2
  go_ret
  exact ⟨rfl, rfl⟩

/-- At, by the ring: any place. -/
theorem i_at_any (S : Nat → Prop) (b : Nat) (xs : List Int) (room : Nat) (w : World) (h : RingAt 118 3 (Value.int .i64) S w b xs room) (i : Int) (x : Int) (ok : Bool)
    (hx : if 0 ≤ i ∧ i < xs.length then xs[i.toNat]? = some x ∧ ok = true else x = 0 ∧ ok = false) :
    Calls Try.prog 29 #[.pointer (some ⟨b, 0, none⟩), .int .i64 i] w fun e w' => e = .returned (.tuple #[.int .i64 x, .bool ok]) ∧ ∃ n, w.drewN n = w' := by
  obtain ⟨len, first, s, hSb, hB, hr, hr2, hd⟩ := h
  have h0 : w.cell? ⟨b, 0, none⟩ = some (.slice s len len) := hB.cell' (i := 0) (by rfl)
  have h1 : w.cell? ⟨b, 1, none⟩ = some (.int .i64 first) := hB.cell' (i := 1) (by rfl)
  have h2 : w.cell? ⟨b, 2, none⟩ = some (.int .i64 xs.length) := hB.cell' (i := 2) (by rfl)
  split at hx
  · rename_i hi
    obtain ⟨hx, rfl⟩ := hx
    obtain ⟨g, cur, rfl, hSg, hgb, hG, hcs, hf, hxl, hl65, hcell⟩ := hd.resolve_left (fun h => by rw [h.2.2.2] at hi; simp at hi; omega)
    clear hd
    obtain ⟨j, rfl⟩ := Int.eq_ofNat_of_zero_le hi.1
    exact (i_at_in b g len len first xs.length _ j j _ w h0 h1 h2 rfl rfl hf (by omega) hxl hl65 (hG.cell' (hcell j x (by simpa using hx)))).mono fun e w' h => h
  · rename_i hi
    obtain ⟨rfl, rfl⟩ := hx
    exact (i_at_out b xs.length i w h2 (by omega)).mono fun e w' h => ⟨h.1, 0, h.2⟩

set_option maxHeartbeats 1000000 in
set_option maxRecDepth 100000 in
theorem i_list_any (S : Nat → Prop) (b : Nat) (xs : List Int) (room : Nat) (w : World) (h : RingAt 118 3 (Value.int .i64) S w b xs room) :
    Calls Try.prog 32 #[.pointer (some ⟨b, 0, none⟩)] w (RetSl fun v w' => w'.ownsRow w.heap.size 3 1 v xs.length (xs.map (Value.int .i64)) ∧ Chg NoB w w') := by
  obtain ⟨i0, hi0, hz0, hz1, hz2⟩ := info_parts i_info
  have hlen : xs.length ≤ 65536 := by obtain ⟨_, _, _, _, _, h1, h2, _⟩ := h; omega
  have h2 : w.cell? ⟨b, 2, none⟩ = some (.int .i64 xs.length) := by obtain ⟨_, _, _, _, hB, _⟩ := h; exact hB.cell' (i := 2) (by rfl)
  go_enter Try.func32, Try.ntmps32
  go_wp2_with (go_at_call 30; refine (i_len_any b _ w h2).mono ?_; rintro e w' ⟨rfl, rfl⟩)
  go_loopw [3, 9] (fun l i wr => ∃ k : Nat, k ≤ xs.length ∧ i = .int .i64 k ∧ wr.ownsRow w.heap.size 3 1 l k ((xs.take k).map (Value.int .i64)) ∧ Chg NoB w wr) (fun _ i _ => xs.length - (intOf i).toNat)
  case atStart => exact ⟨0, Nat.zero_le _, rfl, World.ownsRow_nil _ _ _ _, Chg.refl _ _⟩
  case round =>
    obtain ⟨k, hk, rfl, hown, C1⟩ := hrel
    by_cases hlt : k < xs.length
    · obtain ⟨x, hx⟩ : ∃ x, xs[k]? = some x := ⟨xs[k], by simp [hlt]⟩
      have hR := h.chg C1 (fun _ _ => id)
      have HX := Lib.hid hx
      clear hx
      go_wp2_with fail
      refine (i_at_any S b xs room wr hR k x true (by rw [if_pos (by omega)]; exact ⟨by simpa using HX.out, rfl⟩)).mono ?_
      rintro e w1 ⟨rfl, n1, hn1⟩
      have C2 : Chg NoB w w1 := hn1 ▸ C1.drewN n1
      have hownA : (w1.alloc (.cells #[.int .i64 x] 3)).ownsRow w.heap.size 3 1 u3 k ((xs.take k).map (Value.int .i64)) := (World.ownsRow.alloc (hn1 ▸ hown) _)
      have h1c : ∀ u ∈ [Value.int .i64 x], u.oneCell' = true := by simp [Value.oneCell']
      have hb1 : k + 1 ≤ maxLen := by unfold maxLen; omega
      have hb2 : (k + 1) * 8 ≤ 140737488355328 := by omega
      have hbase : w.heap.size ≤ (w1.alloc (.cells #[.int .i64 x] 3)).heap.size := by have := C2.size; simp; omega
      have C3 := C2.alloc (.cells #[.int .i64 x] 3)
      clear hn1 hown hR C1
      go_wp2_with (at_builtin; go_must (refine wpList_append_own _ rfl _ _ 47 rfl w.heap.size 3 i0 _ 1 8 Try.underlying47 hi0 hz0 hz1 hz2 rfl (by decide) _ k _ rfl hownA ⟨w1.heap.size, 0, none⟩ 1 1 [.int .i64 x] rfl rfl (cell_one_new _ _ _) h1c hb1 hb2 hbase ?_); intro v4 w4 hown4 hg4 _)
      go_roundw
      case rel =>
        refine ⟨k + 1, by omega, by go_num, ?_, ?_⟩
        · rw [List.take_add_one, HX.out, List.map_append]; exact hown4
        · exact C3.grown hg4 fun q hq => .inr (hownA.lt q hq).1
      case measure => simp [intOf]; omega
    · obtain rfl : k = xs.length := by omega
      rw [List.take_length] at hown
      go_wp2_with fail
      go_ret
      exact ⟨_, rfl, hown, C1⟩
theorem s_info : (Try.prog.info? 9).map (fun i => (i.zero, i.size, i.bytes)) = some (some (.string ⟨#[]⟩), 1, 16) := by kernel_rfl

set_option maxHeartbeats 400000 in
theorem s_place (b : Nat) (s : Option Addr) (len cap f : Nat) (i : Int) (j k : Nat) (w : World)
   (h0 : w.cell? ⟨b, 0, none⟩ = some (.slice s len cap)) (h1 : w.cell? ⟨b, 1, none⟩ = some (.int .i64 f))
   (hij : i = j) (hk : (f + j) % len = k) (hf2 : f ≤ 100000) (hi2 : j ≤ 100000) (hl : 0 < len) (hl2 : len ≤ 100000) :
    Calls Try.prog 73 #[.pointer (some ⟨b, 0, none⟩), .int .i64 i] w fun e w' => e = .returned (.int .i64 k) ∧ ∃ n, w.drewN n = w' := by
  subst hij
  have HK := Lib.hid hk
  clear hk
  go_enter Try.func73, Try.ntmps73
  go_wp2
  go_quiet (fail)
  go_wp2
  go_ret
  exact ⟨by rw [← HK.out]; simp, _, rfl⟩

theorem s_len_any (b : Nat) (n : Int) (w : World) (h1 : w.cell? ⟨b, 2, none⟩ = some (.int .i64 n)) :
    Calls Try.prog 37 #[.pointer (some ⟨b, 0, none⟩)] w fun e w' => e = .returned (.int .i64 n) ∧ w = w' := by
  go_enter Try.func37, Try.ntmps37
  go_wp2
  go_ret
  exact ⟨rfl, rfl⟩

set_option maxHeartbeats 400000 in
theorem s_at_out (b : Nat) (n i : Int) (w : World) (h1 : w.cell? ⟨b, 2, none⟩ = some (.int .i64 n)) (hi : i < 0 ∨ n ≤ i) :
    Calls Try.prog 72 #[.pointer (some ⟨b, 0, none⟩), .int .i64 i] w fun e w' => e = .returned (.tuple #[.string ⟨#[]⟩, .bool false]) ∧ w = w' := by
  rcases hi with hi | hi
  · have hd : decide (i < 0) = true := by simpa using hi
    go_enter Try.func72, Try.ntmps72
    go_wp2
    go_ret2
    exact ⟨rfl, rfl⟩
  · by_cases hi' : i < 0
    · go_enter Try.func72, Try.ntmps72
      go_wp2
      go_ret2
      exact ⟨rfl, rfl⟩
    · go_enter Try.func72, Try.ntmps72
      go_wp2
      go_ret2
      exact ⟨rfl, rfl⟩

set_option maxHeartbeats 400000 in
theorem s_at_in (b g : Nat) (len cap f n k : Nat) (i : Int) (j : Nat) (v : Value) (w : World)
   (h0 : w.cell? ⟨b, 0, none⟩ = some (.slice (some ⟨g, 0, none⟩) len cap)) (h1 : w.cell? ⟨b, 1, none⟩ = some (.int .i64 f)) (h2 : w.cell? ⟨b, 2, none⟩ = some (.int .i64 n))
   (hij : i = j) (hk : (f + j) % len = k) (hf2 : f < len) (hi : j < n) (hn : n ≤ len) (hl2 : len ≤ 65536) (hv : w.cell? ⟨g, k, none⟩ = some v) :
    Calls Try.prog 72 #[.pointer (some ⟨b, 0, none⟩), .int .i64 i] w fun e w' => e = .returned (.tuple #[v, .bool true]) ∧ ∃ n, w.drewN n = w' := by
  subst hij
  have hm : (k : Int) < len := by have := Nat.mod_lt (f + j) (show 0 < len by omega); omega
  have hm0 : (0 : Int) ≤ k := by omega
  have HK := Lib.hid hk
  clear hk
  go_enter Try.func72, Try.ntmps72
  go_wp2_with fail
  go_quiet ((go_at_call 73; exact quiet' (s_place b _ len cap f _ j k _ h0 h1 rfl HK.out (by omega) (by omega) (by omega) (by omega))))
  go_wp2
  go_ret2
  exact ⟨rfl, _, rfl⟩

set_option maxHeartbeats 1000000 in
set_option maxRecDepth 100000 in
theorem s_grow (S : Nat → Prop) (b : Nat) (xs : List ByteArray) (room : Nat) (w : World) (h : RingAt 121 9 (Value.string) S w b xs room) (hn : xs.length < room) :
    Calls Try.prog 74 #[.pointer (some ⟨b, 0, none⟩)] w (GrowPost 121 9 (Value.string) b xs room w) := by
  obtain ⟨i0, hi0, hz0, hz1, hz2⟩ := info_parts s_info
  obtain ⟨len, first, s, hSb, hB, hr, hr2, hd⟩ := h
  have h0 := hB.cell' (i := 0) (by rfl)
  have h1 := hB.cell' (i := 1) (by rfl)
  have h2 := hB.cell' (i := 2) (by rfl)
  have h3 := hB.cell' (i := 3) (by rfl)
  have hw : IntKind.i64.wrap (2 * (xs.length : Int)) = 2 * (xs.length : Int) := IntWalk.i64_in _ (by omega)
  obtain ⟨m, hm⟩ : ∃ m : Nat, (if (room : Int) < 2 * (xs.length : Int) then (room : Int) else 2 * (xs.length : Int)) = m := by
    by_cases h : (room : Int) < 2 * (xs.length : Int)
    · exact ⟨room, by rw [if_pos h]⟩
    · exact ⟨2 * xs.length, by rw [if_neg h]; omega⟩
  have hm2 : m ≤ room ∧ xs.length ≤ m ∧ (0 < xs.length → xs.length < m) := by
    split at hm <;> omega
  obtain ⟨c, hc⟩ : ∃ c : Nat, (if (4 : Int) < (m : Int) then (m : Int) else 4) = c := by
    by_cases h : (4 : Int) < m
    · exact ⟨m, by rw [if_pos h]⟩
    · exact ⟨4, by rw [if_neg h]; rfl⟩
  have hc2 : 4 ≤ c ∧ m ≤ c ∧ (c = m ∨ c = 4) := by
    split at hc <;> omega
  go_enter Try.func74, Try.ntmps74
  go_wp2_with fail
  refine wp_region_plan 11 [] [0, 1, 2, 3, 4, 5, 6, 7, 8, 9, 10] (by kernel_rfl) (by kernel_rfl) (fun _ _ _ _ _ h => h) ?_
  simp only [pickOps_nil, pickOps_cons, Option.getD_some, List.getElem?_toArray, List.getElem?_cons_zero, List.getElem?_cons_succ, List.cons_append, List.nil_append, List.drop_succ_cons, List.drop_zero]
  repeat (go_big_quiet_step (fail))
  refine wpQuiet_nil ?_
  intro w0 hw0
  have C0 := Chg.of_ex hw0
  clear hw0
  obtain ⟨w1, hmk, hown, hg⟩ := run_make_own (P := Try.prog) w0 w0.heap.size 42 9 i0 _ 1 Try.underlying42 hi0 hz0 hz1 .i64 .i64 c (by rw [hz2]; omega) (by unfold maxLen; omega) (Nat.le_refl _)
  have C1 : Chg NoB w w1 := C0.grown hg (by simp)
  have hH : w.heap.size ≤ w0.heap.size := C0.size
  obtain ⟨G, hG0⟩ : ∃ G, G = w0.heap.size := ⟨_, rfl⟩
  rw [← hG0] at hmk hown hH
  clear hG0 hg C0
  have g0 := C1.cell h0 id
  have g1 := C1.cell h1 id
  have g2 := C1.cell h2 id
  have g3 := C1.cell h3 id
  have HM := Lib.hid hm
  have HC := Lib.hid hc
  clear hm hc h0 h1 h2 h3
  go_wp2_with fail
  go_loopw [2, 20] (fun l i wr => ∃ k : Nat, k ≤ xs.length ∧ i = .int .i64 k ∧ l = .slice (some ⟨G, 0, none⟩) k c ∧ wr.ownsRow G 9 1 l k ((xs.take k).map (Value.string)) ∧ Chg NoB w wr) (fun _ i _ => xs.length - (intOf i).toNat)
  case atStart => exact ⟨0, Nat.zero_le _, rfl, rfl, hown, C1⟩
  case round =>
    obtain ⟨k, hk, rfl, rfl, hown', C2⟩ := hrel
    clear hown C1 g0 g1 g2 g3 hmk
    have g0 : wr.cell? ⟨b, 0, none⟩ = some (.slice s len len) := C2.cell (hB.cell' (i := 0) (by rfl)) id
    have g1 : wr.cell? ⟨b, 1, none⟩ = some (.int .i64 first) := C2.cell (hB.cell' (i := 1) (by rfl)) id
    by_cases hlt : k < xs.length
    · obtain ⟨g, cur, rfl, hSg, hgb, hG, hcs, hf, hxl, hl65, hcell⟩ := hd.resolve_left (fun h => by rw [h.2.2.2] at hlt; simp at hlt)
      obtain ⟨j, hj⟩ : ∃ j, (first + k) % len = j := ⟨_, rfl⟩
      have hjl : (j : Int) < len := by have := Nat.mod_lt (first + k) (show 0 < len by omega); omega
      have hj0 : (0 : Int) ≤ j := by omega
      obtain ⟨x, hx⟩ : ∃ x, xs[k]? = some x := ⟨xs[k], by simp [hlt]⟩
      have hv := C2.cell (hG.cell' (i := j) (by rw [← hj]; exact hcell k x hx)) id
      have HJ := Lib.hid hj
      have HX := Lib.hid hx
      have HCS := Lib.hid hcs
      clear hj hx hcs hcell hd
      go_wp2_with fail
      refine wp_region_plan 10 [0] [1, 2, 3, 4, 5, 6, 7, 8, 9] (by kernel_rfl) (by kernel_rfl) (fun _ _ _ _ _ h => h) ?_
      simp only [pickOps_nil, pickOps_cons, Option.getD_some, List.getElem?_toArray, List.getElem?_cons_zero, List.getElem?_cons_succ, List.cons_append, List.nil_append, List.drop_succ_cons, List.drop_zero]
      repeat (go_big_quiet_step ((go_at_call 73; exact quiet' (s_place b _ len len first _ k j _ g0 g1 rfl HJ.out (by omega) (by omega) (by omega) (by omega)))))
      refine wpQuiet_nil ?_
      intro w3 hw3
      have C3 := Chg.of_ex hw3
      clear hw3
      have hownA : (w3.alloc (.cells #[Value.string x] 9)).ownsRow G 9 1 (.slice (some ⟨G, 0, none⟩) k c) k ((xs.take k).map (Value.string)) := (C3.owns hown').alloc _
      have h1c : ∀ u ∈ [Value.string x], u.oneCell' = true := by simp [Value.oneCell']
      have hroom : k + 1 ≤ c := by omega
      clear hown'
      go_wp2_with (at_builtin; go_must (refine wpList_append_own_spare _ rfl _ _ 42 rfl G 9 i0 1 Try.underlying42 hi0 hz1 G k c _ rfl hownA ⟨w3.heap.size, 0, none⟩ 1 1 [Value.string x] rfl rfl (cell_one_new _ _ _) h1c hroom ?_); intro w4 hown4 hg4)
      go_roundw
      case rel =>
        refine ⟨k + 1, by omega, by go_num, rfl, ?_, ?_⟩
        · rw [List.take_add_one, HX.out, List.map_append]; exact hown4
        · exact ((C2.then0 C3).alloc _).grown hg4 (fun q hq => by cases hq; exact .inr hH)
      case measure => simp [intOf]; omega
    · obtain rfl : k = xs.length := by omega
      have hB' := C2.blk0 hB
      have k0 := hB'.frozen 0
      have k1 := hB'.frozen 1
      clear hd
      go_wp2_with fail
      go_end0
      obtain ⟨hln, hv | ⟨G', cap', cur, hv, hGb, hGc, hnc, hcm, hcs, htk⟩⟩ := hown'
      · cases hv.1
      cases hv
      have hGC : Blk wr G cur 9 := hGc
      have hbG : b ≠ G := by have := hB.lt; omega
      refine ⟨rfl, G, c, cur, hH, ?_, (hGC.set_ne (by simpa using hbG.symm) _).set_ne (by simpa using hbG.symm) _, by omega, by omega, by omega, ?_, ?_⟩
      · exact (hB'.set 0 _).set 1 _
      · intro i x hx
        have hl := (List.getElem?_eq_some_iff.1 hx).1
        rw [List.take_length, Nat.mul_one] at htk
        have : cur.toList[i]? = some (Value.string x) := by
          have h2 : (cur.toList.take xs.length)[i]? = some (Value.string x) := by rw [htk, List.getElem?_map, hx]; rfl
          rw [List.getElem?_take] at h2
          simpa [hl] using h2
        simpa using this
      · exact ((C2.mono (S' := (· = b)) (fun _ _ h => h.elim)).setCell (.inl rfl) _).setCell (.inl rfl) _

theorem s_push_full (b : Nat) (n room : Int) (v : Value) (w : World) (h2 : w.cell? ⟨b, 2, none⟩ = some (.int .i64 n)) (h3 : w.cell? ⟨b, 3, none⟩ = some (.int .i64 room)) (hn : room ≤ n) :
    Calls Try.prog 36 #[.pointer (some ⟨b, 0, none⟩), v] w fun e w' => e = .returned (.bool false) ∧ ∃ n, w.drewN n = w' := by
  go_enter Try.func36, Try.ntmps36
  go_wp2_with fail
  go_quiet (fail)
  go_wp2
  go_ret
  exact ⟨rfl, _, rfl⟩


set_option maxHeartbeats 1000000 in
set_option maxRecDepth 100000 in
theorem s_push_ok (S : Nat → Prop) (b : Nat) (xs : List ByteArray) (room : Nat) (v : ByteArray) (w : World) (h : RingAt 121 9 (Value.string) S w b xs room) (hn : xs.length < room) :
    Calls Try.prog 36 #[.pointer (some ⟨b, 0, none⟩), Value.string v] w (RetW (.bool true) fun w' => RingAt 121 9 (Value.string) (Grow S w) w' b (xs ++ [v]) room ∧ Chg S w w') := by
  have hR := h
  obtain ⟨len, first, s, hSb, hB, hr, hr2, hd⟩ := h
  have h0 : w.cell? ⟨b, 0, none⟩ = some (.slice s len len) := hB.cell' (i := 0) (by rfl)
  have h1 : w.cell? ⟨b, 1, none⟩ = some (.int .i64 first) := hB.cell' (i := 1) (by rfl)
  have h2 : w.cell? ⟨b, 2, none⟩ = some (.int .i64 xs.length) := hB.cell' (i := 2) (by rfl)
  have h3 : w.cell? ⟨b, 3, none⟩ = some (.int .i64 room) := hB.cell' (i := 3) (by rfl)
  have hn1 : (xs.length : Int) < room := by omega
  by_cases hfull : xs.length = len
  · have hful : ((xs.length : Int) == (len : Int)) = true := by simp; omega
    have HF := Lib.hid hfull
    clear hfull hd
    go_enter Try.func36, Try.ntmps36
    go_wp2_with fail
    go_quiet (fail)
    go_wp2_with fail
    go_quiet (fail)
    go_wp2_with fail
    refine (s_grow S b xs room _ (by exact hR) hn).mono ?_
    rintro e w1 ⟨rfl, g, c, cur, hG', hB1, hG1, hcs, hc, hc2, hcell, C0'⟩
    have C0 := C0'.undrewN
    have hG : w.heap.size ≤ g := hG'
    clear hG' C0'
    clear h0 h1 h2 h3 hful
    have k2 := hB1.cell' (i := 2) (v := .int .i64 xs.length) (by rfl)
    have k2f := hB1.frozen 2
    go_wp2_with fail
    have hSg : Grow S w g := .inr hG
    have hgb : g ≠ b := by have := hB.lt; omega
    have hnl : xs.length < c := hc
    have hf : 0 < c := by omega
    obtain ⟨k, hk⟩ : ∃ k, (0 + xs.length) % c = k := ⟨_, rfl⟩
    have hkl : (k : Int) < c := by have := Nat.mod_lt (0 + xs.length) hf; omega
    have hk0 : (0 : Int) ≤ k := by omega
    have hcell' : ∀ (i : Nat) (x : ByteArray), xs[i]? = some x → cur[(0 + i) % c]? = some (Value.string x) := fun i x hx => by
      have := (List.getElem?_eq_some_iff.1 hx).1
      rw [Nat.zero_add, Nat.mod_eq_of_lt (by omega)]; exact hcell i x hx
    have C1 : Chg S w w1 := C0.mono fun k _ h => h ▸ hSb
    have HK := Lib.hid hk
    have HC := Lib.hid hcell'
    have HS := Lib.hid hcs
    clear hk hcell hcell' hcs k2 k2f hB C0 hR
    have hk2 : k < cur.size := by have := HS.out; omega
    have i0 := (Blk.set hB1 2 (.int .i64 (xs.length + 1)))
    have i1 := hG1.set_ne (a := ⟨b, 2, none⟩) (by simpa using hgb) (.int .i64 (xs.length + 1))
    have j0 := i0.cell' (i := 0) (v := .slice (some ⟨g, 0, none⟩) c c) (by rfl)
    have j1 := i0.cell' (i := 1) (v := .int .i64 0) (by rfl)
    have j2 := i0.cell' (i := 2) (v := .int .i64 (xs.length + 1)) (by rfl)
    have j3 := i1.cell' (i := k) (v := cur[k]) (by simp [hk2])
    have j4 := i1.frozen k
    have HI := Lib.hid i0
    have HG := Lib.hid i1
    clear i0 i1 hB1 hG1
    generalize hW : World.setCell _ _ _ = w2 at *
    refine wp_region_plan 13 [] [0, 1, 2, 3, 4, 5, 6, 7, 8, 9, 10, 11, 12] (by kernel_rfl) (by kernel_rfl) (fun _ _ _ _ _ h => h) ?_
    simp only [pickOps_nil, pickOps_cons, Option.getD_some, List.getElem?_toArray, List.getElem?_cons_zero, List.getElem?_cons_succ, List.cons_append, List.nil_append, List.drop_succ_cons, List.drop_zero]
    repeat (go_big_quiet_step ((go_at_call 73; exact quiet' (s_place b _ c c 0 _ xs.length k _ j0 j1 (by simp) HK.out (by omega) (by omega) (by omega) (by omega)))))
    refine wpQuiet_nil ?_
    intro w3 hw3
    have C3 := Chg.of_ex hw3
    clear hw3
    have j5 := C3.cell j3 id
    have j6 : w3.frozen? ⟨g, k, none⟩ = false := (C3.blk0 HG.out).frozen k
    clear j0 j1 j2 j3 j4
    go_wp2
    go_ret
    have hb3 := C3.blk0 HI.out
    have hg3 := C3.blk0 HG.out
    refine ⟨rfl, ⟨c, 0, some ⟨g, 0, none⟩, .inl hSb, ?_, by simp; omega, hr2, .inr ⟨g, cur.setIfInBounds k (Value.string v), rfl, hSg, hgb, hg3.set k _, by simpa using HS.out, hf, by simp; omega, by omega, ring_push v HS.out hf hnl HK.out HC.out⟩⟩, ?_⟩
    · have := hb3.set_ne (a := ⟨g, k, none⟩) (by simpa using hgb.symm) (Value.string v)
      simpa using this
    · rw [← hW] at C3
      exact ((C1.setCell (a := ⟨b, 2, none⟩) (.inl hSb) _).then0 C3).setCell (a := ⟨g, k, none⟩) hSg _
  · obtain ⟨g, cur, rfl, hSg, hgb, hG1, hcs, hf, hxl, hl65, hcell⟩ := hd.resolve_left (fun h => by rw [h.2.2.2, h.1] at hfull; simp at hfull)
    clear hd
    have hful : ((xs.length : Int) == (len : Int)) = false := by simp; omega
    have hnl : xs.length < len := by omega
    obtain ⟨k, hk⟩ : ∃ k, (first + xs.length) % len = k := ⟨_, rfl⟩
    have hkl : (k : Int) < len := by have := Nat.mod_lt (first + xs.length) (show 0 < len by omega); omega
    have hk0 : (0 : Int) ≤ k := by omega
    have HK := Lib.hid hk
    have HC := Lib.hid hcell
    have HS := Lib.hid hcs
    have HF := Lib.hid hfull
    have k2f := hB.frozen 2
    clear hk hcell hcs hfull
    go_enter Try.func36, Try.ntmps36
    go_wp2_with fail
    go_quiet (fail)
    go_wp2_with fail
    go_quiet (fail)
    go_wp2_with fail
    generalize hw1 : w.drewN _ = w1
    have hB1 : Blk w1 b #[.slice (some ⟨g, 0, none⟩) len len, .int .i64 first, .int .i64 xs.length, .int .i64 room] 121 := hw1 ▸ hB
    have hG1' : Blk w1 g cur 9 := hw1 ▸ hG1
    have C1 : Chg S w w1 := hw1 ▸ (Chg.refl S w).drewN _
    clear hw1
    clear hB h0 h1 h2 h3 k2f hR hG1
    have hSg : Grow S w g := .inl hSg
    have hG1 := hG1'
    clear hG1'
    have hk2 : k < cur.size := by have := HS.out; omega
    have i0 := (Blk.set hB1 2 (.int .i64 (xs.length + 1)))
    have i1 := hG1.set_ne (a := ⟨b, 2, none⟩) (by simpa using hgb) (.int .i64 (xs.length + 1))
    have j0 := i0.cell' (i := 0) (v := .slice (some ⟨g, 0, none⟩) len len) (by rfl)
    have j1 := i0.cell' (i := 1) (v := .int .i64 first) (by rfl)
    have j2 := i0.cell' (i := 2) (v := .int .i64 (xs.length + 1)) (by rfl)
    have j3 := i1.cell' (i := k) (v := cur[k]) (by simp [hk2])
    have j4 := i1.frozen k
    have HI := Lib.hid i0
    have HG := Lib.hid i1
    clear i0 i1 hB1 hG1
    generalize hW : World.setCell _ _ _ = w2 at *
    refine wp_region_plan 13 [] [0, 1, 2, 3, 4, 5, 6, 7, 8, 9, 10, 11, 12] (by kernel_rfl) (by kernel_rfl) (fun _ _ _ _ _ h => h) ?_
    simp only [pickOps_nil, pickOps_cons, Option.getD_some, List.getElem?_toArray, List.getElem?_cons_zero, List.getElem?_cons_succ, List.cons_append, List.nil_append, List.drop_succ_cons, List.drop_zero]
    repeat (go_big_quiet_step ((go_at_call 73; exact quiet' (s_place b _ len len first _ xs.length k _ j0 j1 (by simp) HK.out (by omega) (by omega) (by omega) (by omega)))))
    refine wpQuiet_nil ?_
    intro w3 hw3
    have C3 := Chg.of_ex hw3
    clear hw3
    have j5 := C3.cell j3 id
    have j6 : w3.frozen? ⟨g, k, none⟩ = false := (C3.blk0 HG.out).frozen k
    clear j0 j1 j2 j3 j4
    go_wp2
    go_ret
    have hb3 := C3.blk0 HI.out
    have hg3 := C3.blk0 HG.out
    refine ⟨rfl, ⟨len, first, some ⟨g, 0, none⟩, .inl hSb, ?_, by simp; omega, hr2, .inr ⟨g, cur.setIfInBounds k (Value.string v), rfl, hSg, hgb, hg3.set k _, by simpa using HS.out, hf, by simp; omega, by omega, ring_push v HS.out hf hnl HK.out HC.out⟩⟩, ?_⟩
    · have := hb3.set_ne (a := ⟨g, k, none⟩) (by simpa using hgb.symm) (Value.string v)
      simpa using this
    · rw [← hW] at C3
      exact ((C1.setCell (a := ⟨b, 2, none⟩) (.inl hSb) _).then0 C3).setCell (a := ⟨g, k, none⟩) hSg _

theorem s_pop_no (b : Nat) (w : World) (h2 : w.cell? ⟨b, 2, none⟩ = some (.int .i64 0)) :
    Calls Try.prog 35 #[.pointer (some ⟨b, 0, none⟩)] w fun e w' => e = .returned (.tuple #[.string ⟨#[]⟩, .bool false]) ∧ w = w' := by
  go_enter Try.func35, Try.ntmps35
  go_wp2_with (go_at_call 72; refine (s_at_out b 0 0 w h2 (.inr (by omega))).mono ?_; rintro e w' ⟨rfl, rfl⟩)
  go_ret2
  exact ⟨rfl, rfl⟩

set_option maxHeartbeats 1000000 in
set_option maxRecDepth 100000 in
theorem s_pop_ok (S : Nat → Prop) (b : Nat) (x : ByteArray) (t : List ByteArray) (room : Nat) (w : World) (h : RingAt 121 9 (Value.string) S w b (x :: t) room) :
    Calls Try.prog 35 #[.pointer (some ⟨b, 0, none⟩)] w (RetW (.tuple #[Value.string x, .bool true]) fun w' => RingAt 121 9 (Value.string) S w' b t room ∧ Chg S w w') := by
  obtain ⟨len, first, s, hSb, hB, hr, hr2, hd⟩ := h
  obtain ⟨g, cur, rfl, hSg, hgb, hG, hcs, hf, hxl, hl65, hcell⟩ := hd.resolve_left (fun h => by cases h.2.2.2)
  clear hd
  have h0 : w.cell? ⟨b, 0, none⟩ = some (.slice (some ⟨g, 0, none⟩) len len) := hB.cell' (i := 0) (by rfl)
  have h1 : w.cell? ⟨b, 1, none⟩ = some (.int .i64 first) := hB.cell' (i := 1) (by rfl)
  have h2 : w.cell? ⟨b, 2, none⟩ = some (.int .i64 (x :: t).length) := hB.cell' (i := 2) (by rfl)
  have hv : w.cell? ⟨g, first, none⟩ = some (Value.string x) := hG.cell' (by have := hcell 0 x rfl; rwa [Nat.add_zero, Nat.mod_eq_of_lt hf] at this)
  have hHf := Lib.hid (hcell 0 x rfl)
  have hfi : (first : Int) < len := by omega
  have hxl' : t.length + 1 ≤ len := by simpa using hxl
  have hr' : t.length + 1 ≤ room := by simpa using hr
  have HC := Lib.hid hcell
  have HS := Lib.hid hcs
  clear hcell hcs
  go_enter Try.func35, Try.ntmps35
  go_wp2_with fail
  refine (s_at_in b g len len first (x :: t).length first 0 0 _ _ h0 h1 h2 rfl (by rw [Nat.add_zero, Nat.mod_eq_of_lt hf]) hf (by simp) (by simpa using hxl') hl65 hv).mono ?_
  rintro e w1 ⟨rfl, n1, hn1⟩
  have hB1 : Blk w1 b #[.slice (some ⟨g, 0, none⟩) len len, .int .i64 first, .int .i64 (x :: t).length, .int .i64 room] 121 := hn1 ▸ hB
  have hG1 : Blk w1 g cur 9 := hn1 ▸ hG
  have C1 : Chg S w w1 := hn1 ▸ (Chg.refl S w).drewN _
  have i0 : w1.cell? ⟨b, 0, none⟩ = some (.slice (some ⟨g, 0, none⟩) len len) := hB1.cell' (i := 0) (by rfl)
  have i1 : w1.cell? ⟨b, 1, none⟩ = some (.int .i64 first) := hB1.cell' (i := 1) (by rfl)
  have i3 : w1.cell? ⟨g, first, none⟩ = some (Value.string x) := hn1 ▸ hv
  clear hn1 h0 h1 h2 hv hB hG hr hxl
  go_wp2_with fail
  refine wp_region_plan 10 [] [0, 1, 2, 3, 4, 5, 6, 7, 8, 9] (by kernel_rfl) (by kernel_rfl) (fun _ _ _ _ _ h => h) ?_
  simp only [pickOps_nil, pickOps_cons, Option.getD_some, List.getElem?_toArray, List.getElem?_cons_zero, List.getElem?_cons_succ, List.cons_append, List.nil_append, List.drop_succ_cons, List.drop_zero]
  repeat (go_big_quiet_step (fail))
  refine wpQuiet_nil ?_
  intro w2 hw2
  have C2 := Chg.of_ex hw2
  clear hw2
  have hB2 := C2.blk0 hB1
  have hG2 := C2.blk0 hG1
  have j3 := C2.cell i3 id
  have j4 : w2.frozen? ⟨g, first, none⟩ = false := hG2.frozen first
  clear hB1 hG1 i0 i1 i3
  have hB3 := hB2.set_ne (a := ⟨g, first, none⟩) (by simpa using hgb.symm) (.string ⟨#[]⟩)
  have hG3 := hG2.set first (.string ⟨#[]⟩)
  have k0 : (w2.setCell ⟨g, first, none⟩ (.string ⟨#[]⟩)).cell? ⟨b, 0, none⟩ = some (.slice (some ⟨g, 0, none⟩) len len) := hB3.cell' (i := 0) (by rfl)
  have k1 : (w2.setCell ⟨g, first, none⟩ (.string ⟨#[]⟩)).cell? ⟨b, 1, none⟩ = some (.int .i64 first) := hB3.cell' (i := 1) (by rfl)
  have hH := Lib.hid hB3
  have hHG := Lib.hid hG3
  clear hB3 hG3 hB2 hG2
  go_wp2_with fail
  obtain ⟨f2, hf2⟩ : ∃ f2, (first + 1) % len = f2 := ⟨_, rfl⟩
  have hf2l : f2 < len := hf2 ▸ Nat.mod_lt _ (by omega)
  have HF := Lib.hid hf2
  clear hf2
  refine (s_place b _ len len first 1 1 f2 _ k0 k1 (by rfl) HF.out (by omega) (by omega) (by omega) (by omega)).mono ?_
  rintro e w3 ⟨rfl, n3, hn3⟩
  have hB4 : Blk w3 b #[.slice (some ⟨g, 0, none⟩) len len, .int .i64 first, .int .i64 (x :: t).length, .int .i64 room] 121 := hn3 ▸ hH.out
  have hG4 : Blk w3 g (cur.setIfInBounds first (.string ⟨#[]⟩)) 9 := hn3 ▸ hHG.out
  have C3 : Chg S w w3 := hn3 ▸ (((C1.then0 C2).setCell (a := ⟨g, first, none⟩) (.inl hSg) _).drewN _)
  have l1 : w3.cell? ⟨b, 1, none⟩ = some (.int .i64 first) := hB4.cell' (i := 1) (by rfl)
  have l2 : w3.cell? ⟨b, 2, none⟩ = some (.int .i64 (t.length + 1)) := hB4.cell' (i := 2) (by rfl)
  have l1f := hB4.frozen 1
  have l2f := hB4.frozen 2
  have KB := Lib.hid hB4
  have KG := Lib.hid hG4
  clear hn3 k0 k1 hH hHG j3 j4 hB4 hG4
  go_wp2_with fail
  go_ret2
  refine ⟨rfl, ⟨len, f2, some ⟨g, 0, none⟩, hSb, ?_, by omega, hr2, .inr ⟨g, cur.setIfInBounds first (.string ⟨#[]⟩), rfl, hSg, hgb, ?_, by simpa using HS.out, hf2l, by omega, hl65, ?_⟩⟩, ?_⟩
  · exact ((KB.out.set 1 _).set 2 _)
  · exact (KG.out.set_ne (by simpa using hgb) _).set_ne (by simpa using hgb) _
  · rw [← HF.out]; exact ring_pop _ HS.out hf (by simpa using hxl') HC.out
  · exact (C3.setCell (a := ⟨b, 1, none⟩) (.inl hSb) _).setCell (a := ⟨b, 2, none⟩) (.inl hSb) _

set_option maxHeartbeats 400000 in
theorem s_new_any (n : Int) (w : World) :
    Calls Try.prog 34 #[.int .i64 n] w (RetPtr fun b w' => b = w.heap.size ∧ RingAt 121 9 (Value.string) (Grow NoB w) w' b [] (min (max n 0) 65536).toNat ∧ Chg NoB w w') := by
  go_enter Try.func34, Try.ntmps34
  go_wp2
  all_goals
    go_ret
    refine ⟨_, rfl, rfl, ⟨0, 0, none, .inr (Nat.le_refl _), ?_, Nat.zero_le _, by omega, .inl ⟨rfl, rfl, rfl, rfl⟩⟩, (Chg.refl _ _).alloc _⟩
    have e : ∀ k : Int, k = (min (max n 0) 65536) → Blk (w.alloc (.cells #[.slice none 0 0, .int .i64 0, .int .i64 0, .int .i64 k] 121)) w.heap.size #[.slice none 0 0, .int .i64 ((0 : Nat) : Int), .int .i64 (([] : List ByteArray).length : Int), .int .i64 ((min (max n 0) 65536).toNat : Int)] 121 := fun k hk => by
      have := Blk.new w #[.slice none 0 0, .int .i64 0, .int .i64 0, .int .i64 k] 121
      rw [show ((min (max n 0) 65536).toNat : Int) = k by omega]
      exact this
    exact e _ (by omega)
end Go.Proofs.Ytokigldggkkbcaa
