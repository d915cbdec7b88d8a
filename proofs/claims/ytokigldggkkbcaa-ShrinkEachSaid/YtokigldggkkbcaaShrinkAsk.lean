/- Asking whether a list is bad: the function value is known by what it answers. -/
import Derived.Test.YtokigldggkkbcaaClone
import Derived.Test.YtokigldggkkbcaaShrinkPlain
set_option linter.unusedVariables false
namespace Go.Proofs.Ytokigldggkkbcaa
open Go.RowKit Go.RR

/-- A function value (function g, bound fst, captured lb) that answers p of any list of integers of the kind k; it keeps what I says, and writes in S and in the list alone; H: what is older than the shrinking. -/
structure Asks (g : Nat) (fst lb : Array Value) (E : TypeId) (enc : Int → Value) (p : List Int → Bool) (B H : Nat) (S : Nat → Prop) (I : Nat → World → Prop) : Prop where
  old : ∀ k, S k → k < H
  keep : ∀ n w w', I n w → H ≤ w.heap.size → Chg (fun k => H ≤ k) w w' → I n w'
  call : ∀ n w v zs Sv, I n w → H ≤ w.heap.size → zs.length ≤ 200 → n ≤ B → Own w Sv E 1 v zs.length (zs.map enc) → (∀ k, Sv k → H ≤ k) →
    Calls Try.prog g (fst ++ #[v] ++ lb) w (RetW (.bool (p zs)) fun w' => I (n + 1) w' ∧ Chg (fun k => S k ∨ Sv k) w w')
  enter : ∀ args w, (callFunc g args).run Try.prog w = .ok (.enter g args) w

theorem undrew {S : Nat → Prop} {w w' : World} (h : Chg S w.drew w') : Chg S w w' := ⟨h.os, h.tape, h.output, h.size, h.block⟩

set_option maxHeartbeats 1000000 in
set_option maxRecDepth 100000 in
theorem n_ask {g : Nat} {fst lb : Array Value} {p : List Int → Bool} {B H : Nat} {S Sl' : Nat → Prop} {I : Nat → World → Prop} (h : Asks g fst lb 3 (Value.int .i64) p B H S I) (w : World) (b n m : Nat) (v : Value) (zs : List Int)
    (hB : Blk w b #[.func (.func g) fst lb, .int .i64 n] 126) (hb : H ≤ b) (hI : I m w) (hH : H ≤ w.heap.size) (hz : zs.length ≤ 200) (hm : m ≤ B) (hn : n ≤ 1000000000) (hs : Sl w Sl' 1 v zs.length (zs.map (Value.int .i64))) (hsb : ∀ k, Sl' k → k ≠ b) :
    Calls Try.prog 77 #[.pointer (some ⟨b, 0, none⟩), v] w (RetW (.bool (p zs)) fun w' => Blk w' b #[.func (.func g) fst lb, .int .i64 (n + 1 : Nat)] 126 ∧ I (m + 1) w' ∧ Chg (fun k => S k ∨ k = b) w w') := by
  have e0 : w.cell? ⟨b, 0, none⟩ = some (.func (.func g) fst lb) := hB.cell' (i := 0) (by rfl)
  have e1 : w.cell? ⟨b, 1, none⟩ = some (.int .i64 n) := hB.cell' (i := 1) (by rfl)
  have e2 := hB.frozen 1
  have hbl := hB.lt
  have HB := Lib.hid hB
  have HS := Lib.hid hs
  clear hB hs
  go_enter Try.func77, Try.ntmps77
  go_wp2_with fail
  have hB1 : Blk (w.setCell ⟨b, 1, none⟩ (.int .i64 (n + 1))) b #[.func (.func g) fst lb, .int .i64 (n + 1)] 126 := HB.out.set 1 _
  have k0 := hB1.cell' (i := 0) (v := .func (.func g) fst lb) (by rfl)
  have C1 : Chg (· = b) w (w.setCell ⟨b, 1, none⟩ (.int .i64 (n + 1))) := (Chg.refl (· = b) w).setCell (a := ⟨b, 1, none⟩) (.inl rfl) _
  generalize hw1 : w.setCell ⟨b, 1, none⟩ (.int .i64 (n + 1)) = w1 at *
  clear hw1 e0 e1 e2
  refine wp_region_take 7 [0, 1, 2, 3, 4] [5, 6] (fun w' => w'.cell? ⟨b, 0, none⟩ = some (.func (.func g) fst lb)) (by kernel_rfl) (by kernel_rfl) (fun _ _ _ _ _ h => h) (k0) ?_
  simp only [pickOps_nil, pickOps_cons, Option.getD_some, List.getElem?_toArray, List.getElem?_cons_zero, List.getElem?_cons_succ, List.cons_append, List.nil_append, List.drop_succ_cons, List.drop_zero]
  repeat
    refine wpTake_cons' rfl ?_
    apply Exists.intro
    refine ⟨fun wS hS => ?_, ?_⟩
    · try dsimp only at hS
      obtain k0 := hS
      go_simp
      try rfl
    simp only [Act.put, List.setIfInBounds_toArray, List.set_cons_zero, List.set_cons_succ]
  refine wpTake_nil ?_
  refine wpForce_cons rfl (fun K hK => ?_)
  go_simp
  refine (n_clone Sl' v zs.length _ _ (show Sl w1.drew Sl' 1 v zs.length (zs.map (Value.int .i64)) from (HS.out.chg C1 hsb).chg (Chg.refl NoB w1).drew (fun _ _ => id)) (by simp [Value.oneCell']) (by omega) (by unfold maxLen; omega)).mono ?_
  rintro e' w2 ⟨v2, rfl, o2, C2'⟩
  have C2 := undrew C2'
  have hs1 := C1.size
  have hs2 := C2.size
  have he := h.enter
  have k2 := C2.cell k0 id
  have C12 : Chg (fun k => k = b) w w2 := C1.then0 C2
  refine hK _ _ k2 ?_
  refine wpForce_cons rfl (fun K2 hK2 => ?_)
  go_simp
  refine (h.call m w2 v2 zs (fun k => w1.heap.size ≤ k) (h.keep m w w2 hI hH (C12.mono fun k _ hk => hk ▸ hb)) (by omega) hz hm o2 (fun k hk => by omega)).mono ?_
  rintro e' w3 ⟨rfl, hI3, C3⟩
  have hB3 := C3.blk (C2.blk0 hB1) (fun hk => hk.elim (fun hk => by have := h.old b hk; omega) (fun hk => by omega))
  refine hK2 _ _ (hB3.cell' (i := 0) (by rfl)) ?_
  refine wpForce_nil ?_
  clear hK hK2 K K2 he k0 k2
  go_wp2_with fail
  go_ret
  exact ⟨rfl, hB3, hI3, (C12.mono fun k _ hk => .inr hk).trans C3 fun k hk hh => hh.elim (fun hh => .inl hh) (fun hh => by omega)⟩
set_option maxHeartbeats 1000000 in
set_option maxRecDepth 100000 in
theorem b_ask {g : Nat} {fst lb : Array Value} {p : List Int → Bool} {B H : Nat} {S Sl' : Nat → Prop} {I : Nat → World → Prop} (h : Asks g fst lb 5 (fun z => Value.int .u8 (z % 256)) p B H S I) (w : World) (b n m : Nat) (v : Value) (zs : List Int)
    (hB : Blk w b #[.func (.func g) fst lb, .int .i64 n] 141) (hb : H ≤ b) (hI : I m w) (hH : H ≤ w.heap.size) (hz : zs.length ≤ 200) (hm : m ≤ B) (hn : n ≤ 1000000000) (hs : Sl w Sl' 1 v zs.length (zs.map (fun z => Value.int .u8 (z % 256)))) (hsb : ∀ k, Sl' k → k ≠ b) :
    Calls Try.prog 83 #[.pointer (some ⟨b, 0, none⟩), v] w (RetW (.bool (p zs)) fun w' => Blk w' b #[.func (.func g) fst lb, .int .i64 (n + 1 : Nat)] 141 ∧ I (m + 1) w' ∧ Chg (fun k => S k ∨ k = b) w w') := by
  have e0 : w.cell? ⟨b, 0, none⟩ = some (.func (.func g) fst lb) := hB.cell' (i := 0) (by rfl)
  have e1 : w.cell? ⟨b, 1, none⟩ = some (.int .i64 n) := hB.cell' (i := 1) (by rfl)
  have e2 := hB.frozen 1
  have hbl := hB.lt
  have HB := Lib.hid hB
  have HS := Lib.hid hs
  clear hB hs
  go_enter Try.func83, Try.ntmps83
  go_wp2_with fail
  have hB1 : Blk (w.setCell ⟨b, 1, none⟩ (.int .i64 (n + 1))) b #[.func (.func g) fst lb, .int .i64 (n + 1)] 141 := HB.out.set 1 _
  have k0 := hB1.cell' (i := 0) (v := .func (.func g) fst lb) (by rfl)
  have C1 : Chg (· = b) w (w.setCell ⟨b, 1, none⟩ (.int .i64 (n + 1))) := (Chg.refl (· = b) w).setCell (a := ⟨b, 1, none⟩) (.inl rfl) _
  generalize hw1 : w.setCell ⟨b, 1, none⟩ (.int .i64 (n + 1)) = w1 at *
  clear hw1 e0 e1 e2
  refine wp_region_take 7 [0, 1, 2, 3, 4] [5, 6] (fun w' => w'.cell? ⟨b, 0, none⟩ = some (.func (.func g) fst lb)) (by kernel_rfl) (by kernel_rfl) (fun _ _ _ _ _ h => h) (k0) ?_
  simp only [pickOps_nil, pickOps_cons, Option.getD_some, List.getElem?_toArray, List.getElem?_cons_zero, List.getElem?_cons_succ, List.cons_append, List.nil_append, List.drop_succ_cons, List.drop_zero]
  repeat
    refine wpTake_cons' rfl ?_
    apply Exists.intro
    refine ⟨fun wS hS => ?_, ?_⟩
    · try dsimp only at hS
      obtain k0 := hS
      go_simp
      try rfl
    simp only [Act.put, List.setIfInBounds_toArray, List.set_cons_zero, List.set_cons_succ]
  refine wpTake_nil ?_
  refine wpForce_cons rfl (fun K hK => ?_)
  go_simp
  refine (b_clone Sl' v zs.length _ _ (show Sl w1.drew Sl' 1 v zs.length (zs.map (fun z => Value.int .u8 (z % 256))) from (HS.out.chg C1 hsb).chg (Chg.refl NoB w1).drew (fun _ _ => id)) (by simp [Value.oneCell']) (by omega) (by unfold maxLen; omega)).mono ?_
  rintro e' w2 ⟨v2, rfl, o2, C2'⟩
  have C2 := undrew C2'
  have hs1 := C1.size
  have hs2 := C2.size
  have he := h.enter
  have k2 := C2.cell k0 id
  have C12 : Chg (fun k => k = b) w w2 := C1.then0 C2
  refine hK _ _ k2 ?_
  refine wpForce_cons rfl (fun K2 hK2 => ?_)
  go_simp
  refine (h.call m w2 v2 zs (fun k => w1.heap.size ≤ k) (h.keep m w w2 hI hH (C12.mono fun k _ hk => hk ▸ hb)) (by omega) hz hm o2 (fun k hk => by omega)).mono ?_
  rintro e' w3 ⟨rfl, hI3, C3⟩
  have hB3 := C3.blk (C2.blk0 hB1) (fun hk => hk.elim (fun hk => by have := h.old b hk; omega) (fun hk => by omega))
  refine hK2 _ _ (hB3.cell' (i := 0) (by rfl)) ?_
  refine wpForce_nil ?_
  clear hK hK2 K K2 he k0 k2
  go_wp2_with fail
  go_ret
  exact ⟨rfl, hB3, hI3, (C12.mono fun k _ hk => .inr hk).trans C3 fun k hk hh => hh.elim (fun hh => .inl hh) (fun hh => by omega)⟩
end Go.Proofs.Ytokigldggkkbcaa
