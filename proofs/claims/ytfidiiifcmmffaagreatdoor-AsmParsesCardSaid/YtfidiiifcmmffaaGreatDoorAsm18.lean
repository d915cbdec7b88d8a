/- The reader's memory; a line that names a label, read by the program. No condition. -/
import Derived.Test.YtfidiiifcmmffaaGreatDoorAsmP6
import Derived.Test.YtfidiiifcmmffaaGreatDoorMapS
set_option linter.unusedVariables false
set_option linter.unusedSimpArgs false
namespace Go.Proofs.YtfidiiifcmmffaaGreatDoor
open Go.RowKit Go.RR
def iC (l : List In) : List Value := l.flatMap fun i => (ic i).toList
def jC (js : List (Nat × Nat × Bs)) : List Value := js.flatMap fun j => [.int .i64 j.1, .int .i64 j.2.1, .string ⟨j.2.2.toArray⟩]
def lC (ls : List (Bs × Nat)) : List (ByteArray × Value) := ls.map fun p => (⟨p.1.toArray⟩, .int .i64 p.2)
theorem iC_app (l : List In) (i : In) : iC (l ++ [i]) = iC l ++ [.int .i64 i.op, .int .i64 i.rd, .int .i64 i.rs, .int .i64 i.rt, .int .i64 i.im] := by unfold iC; rw [List.flatMap_append]; rfl
theorem jC_app (js : List (Nat × Nat × Bs)) (a b : Nat) (s : Bs) : jC (js ++ [(a, b, s)]) = jC js ++ [.int .i64 a, .int .i64 b, .string ⟨s.toArray⟩] := by unfold jC; rw [List.flatMap_append]; rfl
/-- What the reader holds: instructions, labels, jumps; its memory lies from H on. -/
def FS (H : Nat) (G : Nat → Prop) (k : Nat) : Prop := H ≤ k ∧ ¬ G k
def RdX (G : Nat → Prop) (w : World) (H b : Nat) (st : PSt) (t : Nat → Nat) (lv : Value) (mb : Nat) (jv : Value) : Prop := Blk w b #[lv, .map (some mb), jv] 71 ∧ (t b = 0 ∧ H ≤ b) ∧ (t mb = 1 ∧ H ≤ mb) ∧ SMapAt w mb (lC st.ls) ∧
  Own w (Tg t 2 H w) 24 5 lv st.l.length (iC st.l) ∧ Own w (Tg t 3 H w) 109 3 jv st.js.length (jC st.js) ∧ ∀ k, G k → t k = 9 ∧ k < w.heap.size
def RdS (G : Nat → Prop) (w : World) (H b : Nat) (st : PSt) : Prop := ∃ t lv mb jv, RdX G w H b st t lv mb jv
theorem RdX.chg0 {G : Nat → Prop} {w w' : World} {H b : Nat} {st : PSt} {t : Nat → Nat} {lv : Value} {mb : Nat} {jv : Value} (h : RdX G w H b st t lv mb jv) (c : Chg NoB w w') : RdX G w' H b st t lv mb jv := by
  obtain ⟨h1, h2, h3, h4, h5, h6, h7⟩ := h
  exact ⟨c.blk0 h1, h2, h3, h4.chg c id, (h5.chg0 c).mono fun k hk => hk.more c.size, (h6.chg0 c).mono fun k hk => hk.more c.size, fun k hk => ⟨(h7 k hk).1, Nat.lt_of_lt_of_le (h7 k hk).2 c.size⟩⟩
theorem RdS.chg0 {G : Nat → Prop} {w w' : World} {H b : Nat} {st : PSt} (h : RdS G w H b st) (c : Chg NoB w w') : RdS G w' H b st := by
  obtain ⟨t, lv, mb, jv, h⟩ := h
  exact ⟨t, lv, mb, jv, h.chg0 c⟩
/-- An append to a slice with a tag: it keeps its tag, and others keep theirs. -/
theorem app_tag {t : Nat → Nat} {i H : Nat} {w w1 w8 : World} {E : TypeId} {size n m : Nat} {v v8 : Value} {us us8 : List Value} (hown : Own w (Tg t i H w) E size v n us) (c : Chg NoB w w1)
    (o8 : Own w8 (fun k => v.ownBlock = some k ∨ k = w1.heap.size) E size v8 m us8) (g8 : w1.grownBy w8 v.ownBlock) (hH : H ≤ w.heap.size) :
    Own w8 (Tg (tup t i w.heap.size) i H w8) E size v8 m us8 ∧ Chg (Tg t i H w) w w8 := by
  have C8 : Chg (Tg t i H w) w w8 := (c.mono (S' := Tg t i H w) fun _ _ h => h.elim).grown g8 fun k hk => .inl (hown.ownBlock k hk).1
  refine ⟨o8.monoIn fun k hk hs => ?_, C8⟩
  have hs1 := c.size
  rcases hs with hs | hs
  · obtain ⟨h1, h2, h3⟩ := (hown.ownBlock k hs).1
    exact ⟨by unfold tup; rw [if_pos h3]; exact h1, h2, by have := C8.size; omega⟩
  · exact ⟨by unfold tup; rw [if_neg (by omega)], by omega, hk⟩
theorem tup_old {t : Nat → Nat} {i hi k : Nat} (h : k < hi) : tup t i hi k = t k := if_pos h
theorem own_keep {t : Nat → Nat} {i j H : Nat} {w w8 : World} {E : TypeId} {size n : Nat} {v : Value} {us : List Value} (hown : Own w (Tg t j H w) E size v n us) (c : Chg (Tg t i H w) w w8) (hij : j ≠ i) : Own w8 (Tg (tup t i w.heap.size) j H w8) E size v n us :=
  (hown.chg c fun k hk => hk.apart hij).mono fun k hk => hk.keep c.size
theorem RdX.js {G : Nat → Prop} {w w1 w8 : World} {H b : Nat} {st : PSt} {t : Nat → Nat} {lv : Value} {mb : Nat} {jv : Value} (h : RdX G w H b st t lv mb jv) {v8 : Value} {m : Nat} {us : List Value} {js : List (Nat × Nat × Bs)} (c : Chg NoB w w1)
    (o8 : Own w8 (fun k => jv.ownBlock = some k ∨ k = w1.heap.size) 109 3 v8 m us) (g8 : w1.grownBy w8 jv.ownBlock) (hm : m = js.length) (hus : us = jC js) :
    RdX G (w8.setCell ⟨b, 2, none⟩ v8) H b ⟨st.l, st.ls, js⟩ (tup t 3 w.heap.size) lv mb v8 ∧ Chg (FS H G) w (w8.setCell ⟨b, 2, none⟩ v8) := by
  obtain ⟨h1, ⟨h2, h2'⟩, ⟨h3, h3'⟩, h4, h5, h6, h7⟩ := h
  have hbl := h1.lt
  have hml := h4.lt
  obtain ⟨o9, C8⟩ := app_tag h6 c o8 g8 (by omega)
  subst hm hus
  have hb3 : ¬ Tg t 3 H w b := fun hk => by have := hk.1; omega
  have hm3 : ¬ Tg t 3 H w mb := fun hk => by have := hk.1; omega
  have C9 : Chg (fun k => k = b) w8 (w8.setCell ⟨b, 2, none⟩ v8) := (Chg.refl (fun k => k = b) _).setCell (a := ⟨b, 2, none⟩) (.inl rfl) _
  have hsz : w8.heap.size ≤ (w8.setCell ⟨b, 2, none⟩ v8).heap.size := C9.size
  have hb8 : ∀ {i : Nat} {k : Nat}, i ≠ 0 → Tg (tup t 3 w.heap.size) i H w8 k → k ≠ b := fun hi hk e => by
    have := hk.1
    rw [e, tup_old hbl] at this
    omega
  refine ⟨⟨(C8.blk h1 hb3).set 2 v8, ⟨by rw [tup_old hbl]; exact h2, h2'⟩, ⟨by rw [tup_old hml]; exact h3, h3'⟩, (h4.chg C8 hm3).chg C9 (fun e => by rw [e] at h3; omega), ?_, ?_, fun k hk => ⟨by rw [tup_old (h7 k hk).2]; exact (h7 k hk).1, by have := C8.size; have := (h7 k hk).2; omega⟩⟩, ?_⟩
  · exact ((own_keep h5 C8 (by omega)).chg C9 fun k hk => hb8 (by omega) hk).mono fun k hk => hk.more hsz
  · exact (o9.chg C9 fun k hk => hb8 (by omega) hk).mono fun k hk => hk.more hsz
  · exact (C8.mono (S' := FS H G) fun k _ hk => ⟨hk.2.1, fun hg => by have h8 := (h7 k hg).1; have h9 := hk.1; omega⟩).setCell (.inl ⟨h2', fun hg => by have := (h7 b hg).1; omega⟩) _
theorem RdX.li {G : Nat → Prop} {w w1 w8 : World} {H b : Nat} {st : PSt} {t : Nat → Nat} {lv : Value} {mb : Nat} {jv : Value} (h : RdX G w H b st t lv mb jv) {v8 : Value} {m : Nat} {us : List Value} {l : List In} (c : Chg NoB w w1)
    (o8 : Own w8 (fun k => lv.ownBlock = some k ∨ k = w1.heap.size) 24 5 v8 m us) (g8 : w1.grownBy w8 lv.ownBlock) (hm : m = l.length) (hus : us = iC l) :
    RdX G (w8.setCell ⟨b, 0, none⟩ v8) H b ⟨l, st.ls, st.js⟩ (tup t 2 w.heap.size) v8 mb jv ∧ Chg (FS H G) w (w8.setCell ⟨b, 0, none⟩ v8) := by
  obtain ⟨h1, ⟨h2, h2'⟩, ⟨h3, h3'⟩, h4, h5, h6, h7⟩ := h
  have hbl := h1.lt
  have hml := h4.lt
  obtain ⟨o9, C8⟩ := app_tag h5 c o8 g8 (by omega)
  subst hm hus
  have hb3 : ¬ Tg t 2 H w b := fun hk => by have := hk.1; omega
  have hm3 : ¬ Tg t 2 H w mb := fun hk => by have := hk.1; omega
  have C9 : Chg (fun k => k = b) w8 (w8.setCell ⟨b, 0, none⟩ v8) := (Chg.refl (fun k => k = b) _).setCell (a := ⟨b, 0, none⟩) (.inl rfl) _
  have hsz : w8.heap.size ≤ (w8.setCell ⟨b, 0, none⟩ v8).heap.size := C9.size
  have hb8 : ∀ {i : Nat} {k : Nat}, i ≠ 0 → Tg (tup t 2 w.heap.size) i H w8 k → k ≠ b := fun hi hk e => by
    have := hk.1
    rw [e, tup_old hbl] at this
    omega
  refine ⟨⟨(C8.blk h1 hb3).set 0 v8, ⟨by rw [tup_old hbl]; exact h2, h2'⟩, ⟨by rw [tup_old hml]; exact h3, h3'⟩, (h4.chg C8 hm3).chg C9 (fun e => by rw [e] at h3; omega), ?_, ?_, fun k hk => ⟨by rw [tup_old (h7 k hk).2]; exact (h7 k hk).1, by have := C8.size; have := (h7 k hk).2; omega⟩⟩, ?_⟩
  · exact (o9.chg C9 fun k hk => hb8 (by omega) hk).mono fun k hk => hk.more hsz
  · exact ((own_keep h6 C8 (by omega)).chg C9 fun k hk => hb8 (by omega) hk).mono fun k hk => hk.more hsz
  · exact (C8.mono (S' := FS H G) fun k _ hk => ⟨hk.2.1, fun hg => by have h8 := (h7 k hg).1; have h9 := hk.1; omega⟩).setCell (.inl ⟨h2', fun hg => by have := (h7 b hg).1; omega⟩) _
theorem Own.slice {w : World} {S : Nat → Prop} {E : TypeId} {size n : Nat} {v : Value} {us : List Value} (h : Own w S E size v n us) : ∃ p c, v = .slice p n c := by
  obtain ⟨p, c, hv, _⟩ := h.sl.shape
  exact ⟨p, c, hv⟩
theorem JTinfo : (Tryz.prog.info? 109).map (fun i => (i.zero, i.size, i.bytes)) = some (some (.agg #[.int .i64 0, .int .i64 0, .string ⟨#[]⟩]), 3, 32) := by kernel_rfl
theorem INinfo : (Tryz.prog.info? 24).map (fun i => (i.zero, i.size, i.bytes)) = some (some (.agg #[.int .i64 0, .int .i64 0, .int .i64 0, .int .i64 0, .int .i64 0]), 5, 40) := by kernel_rfl
set_option maxHeartbeats 8000000 in
set_option maxRecDepth 100000 in
theorem named_any {G : Nat → Prop} (s : Bs) (n H b : Nat) (st : PSt) (w : World) (hs : s.length ≤ 90000) (hn : n ≤ 100000) (hl : st.l.length ≤ 100000) (hj : st.js.length ≤ 100000) (L : Lb w) (hR : RdS G w H b st) :
    Calls Tryz.prog 62 #[.pointer (some ⟨b, 0, none⟩), .string ⟨s.toArray⟩, .int .i64 n] w (RetV fun v w' => v = .bool (namedP s).isSome ∧ Chg (FS H G) w w' ∧
      ∀ x nm, namedP s = some (x, nm) → RdS G w' H b ⟨st.l ++ [x], st.ls, st.js ++ [(n, st.l.length, nm)]⟩) := by
  have HL := Lib.hid L
  have HR := Lib.hid hR
  have H0 := Lib.hid (Tryz.strings_LastIndexByte ⟨s.toArray⟩ 32 (by show s.toArray.size < _; simp; omega) w)
  rcases last_idx s with ⟨h1, h2⟩ | ⟨a, c, h1, h2, h3⟩
  · have HN : Hid (namedP s = none) := Lib.hid (by unfold namedP; rw [h2])
    rw [h1] at H0
    clear h1 h2 L hR
    go_enter Tryz.func62, Tryz.ntmps62
    go_wp2_with fail
    refine H0.out.mono ?_
    rintro e w1 ⟨rfl, hw1⟩
    subst hw1
    go_wp2_with fail
    go_ret
    exact ⟨_, rfl, by rw [HN.out]; rfl, Chg.refl _ _, fun x nm h => by rw [HN.out] at h; cases h⟩
  · rw [h3] at H0
    have HQ : Hid (namedP s = namedQ a c) := Lib.hid (by unfold namedP; rw [h2])
    have x1 : (ByteArray.mk s.toArray).extract (a.length + 1) s.length = ⟨c.toArray⟩ := by
      apply ByteArray.ext
      rw [ByteArray.data_extract]
      apply Array.ext'
      rw [Array.toList_extract, h1]
      simp
      exact List.take_of_length_le (by omega)
    have x2 : (ByteArray.mk s.toArray).extract 0 (a.length + 1) = ⟨(a ++ [32]).toArray⟩ := by
      apply ByteArray.ext
      rw [ByteArray.data_extract]
      apply Array.ext'
      rw [Array.toList_extract, h1]
      simp
      rw [show a ++ 32 :: c = (a ++ [32]) ++ c by simp]
      exact List.take_left' (by simp)
    have hal : a.length + 1 + c.length = s.length := by rw [h1]; simp; omega
    clear h1 h2 h3 L hR
    go_enter Tryz.func62, Tryz.ntmps62
    go_wp2_with fail
    refine H0.out.mono ?_
    rintro e w1 ⟨rfl, hw1⟩
    subst hw1
    have HLC : Hid (c.length ≤ 100000) := Lib.hid (by omega)
    go_wp2_with fail
    refine (label_any c _ HLC.out).mono ?_
    rintro e w2 ⟨rfl, C2⟩
    have HC2 := Lib.hid C2
    obtain ⟨yl, hyl⟩ : ∃ y, labB c = y := ⟨_, rfl⟩
    rw [hyl]
    have HYL := Lib.hid hyl
    clear C2 hyl
    cases yl
    · have HN : Hid (namedP s = none) := Lib.hid (by rw [HQ.out]; unfold namedQ; rw [HYL.out]; rfl)
      go_wp2_with fail
      go_ret
      exact ⟨_, rfl, by rw [HN.out]; rfl, HC2.out.mono fun _ _ h => h.elim, fun x nm h => by rw [HN.out] at h; cases h⟩
    · have HQ2 : Hid (namedP s = namedR c (lineP (a ++ [32, 48]))) := Lib.hid (by rw [HQ.out]; unfold namedQ; rw [HYL.out, if_pos rfl])
      have x3 : (⟨(a ++ [32]).toArray⟩ : ByteArray) ++ ⟨#[48]⟩ = ⟨(a ++ [32, 48]).toArray⟩ := by
        rw [show (⟨#[48]⟩ : ByteArray) = ⟨([48] : Bs).toArray⟩ from rfl, bs_append]; simp
      have l1 : ¬ 9223372036854775807 < a.length + 1 + 1 := by omega
      have HLA : Hid ((a ++ [32, 48] : Bs).length ≤ 99999) := Lib.hid (by simp; omega)
      go_wp2_with fail
      refine (line_any (a ++ [32, 48]) _ HLA.out (HL.out.chg0 HC2.out)).mono ?_
      rintro e w3 ⟨rfl, C3⟩
      have HC3 := Lib.hid (HC2.out.step C3)
      clear C3 x2 x3 l1
      cases hlp : lineP (a ++ [32, 48]) with
      | none =>
        have HN : Hid (namedP s = none) := Lib.hid (by rw [HQ2.out, hlp]; rfl)
        rw [lineV_none hlp]
        clear hlp
        go_wp2_with fail
        refine (kind_any 0 _).mono ?_
        rintro e w4 ⟨rfl, rfl⟩
        go_wp2_with fail
        go_ret
        exact ⟨_, rfl, by rw [HN.out]; rfl, (HC3.out.alloc _).mono fun _ _ h => h.elim, fun x nm h => by rw [HN.out] at h; cases h⟩
      | some x =>
        have HQ3 : Hid (namedP s = if kd x.op = .B ∨ kd x.op = .J then some (x, c) else none) := Lib.hid (by rw [HQ2.out, hlp]; rfl)
        rw [lineV_some hlp]
        clear hlp
        go_wp2_with fail
        refine (kind_any x.op _).mono ?_
        rintro e w4 ⟨rfl, hw4⟩
        by_cases hk : kd x.op = .B ∨ kd x.op = .J
        · have HQ4 : Hid (namedP s = some (x, c)) := Lib.hid (by rw [HQ3.out, if_pos hk])
          rw [← hw4]
          clear hw4
          have HB8 := Lib.hid (Blk.new w3 (ic x) 24)
          have HC4 : Hid (Chg NoB w1 (w3.alloc (.cells (ic x) 24))) := Lib.hid (HC3.out.alloc _)
          obtain ⟨t, lv, mb, jv, hX⟩ := HR.out
          have hX4 := hX
          obtain ⟨lp, lc, hlv⟩ := Own.slice hX4.2.2.2.2.1
          obtain ⟨jp, jc, hjv⟩ := Own.slice hX4.2.2.2.2.2.1
          subst hlv hjv
          have HX4 := Lib.hid hX4
          have b0 := (HC4.out.blk0 hX4.1).cell' (i := 0) (v := .slice lp st.l.length lc) rfl
          have b2 := (HC4.out.blk0 hX4.1).cell' (i := 2) (v := .slice jp st.js.length jc) rfl
          have hbl := (HC4.out.blk0 hX4.1).lt
          have wr1 : IntKind.i64.wrap ((a.length : Int) + 1) = (a.length : Int) + 1 := IntWalk.i64_in _ (by omega)
          have s0 : (0 : Int) ≤ (a.length : Int) + 1 := by omega
          have s1 : ((a.length : Int) + 1).toNat = a.length + 1 := by omega
          clear hX hX4
          rcases hk with hk | hk
          all_goals
            first | rw [show (kd x.op).s = ⟨#[66]⟩ by rw [hk]; rfl] | rw [show (kd x.op).s = ⟨#[74]⟩ by rw [hk]; rfl]
            clear hk
            go_wp2_with fail
            refine wp_region_take 18 [0, 1, 2, 3, 4, 5, 6, 7, 8, 9, 10, 11, 12, 13, 14, 15] [16, 17] (fun w' => w'.cell? ⟨b, 0, none⟩ = some (.slice lp st.l.length lc) ∧ w'.cell? ⟨b, 2, none⟩ = some (.slice jp st.js.length jc)) (by kernel_rfl) (by kernel_rfl) (fun _ _ _ _ _ h => h) (⟨b0, b2⟩) ?_
            simp only [pickOps_nil, pickOps_cons, Option.getD_some, List.getElem?_toArray, List.getElem?_cons_zero, List.getElem?_cons_succ, List.cons_append, List.nil_append, List.drop_succ_cons, List.drop_zero]
            repeat
              refine wpTake_cons' rfl ?_
              apply Exists.intro
              refine ⟨fun wS hS => ?_, ?_⟩
              · try dsimp only at hS
                obtain ⟨b0, b2⟩ := hS
                go_simp
                try rfl
              simp only [Act.put, List.setIfInBounds_toArray, List.set_cons_zero, List.set_cons_succ]
            refine wpTake_nil ?_
            refine wpForce_cons rfl (fun K hK => ?_)
            go_simp
            have C10 : Chg NoB (w3.alloc (.cells (ic x) 24)) ((w3.alloc (.cells (ic x) 24)).alloc (.cells #[.int .i64 n, .int .i64 st.l.length, .string ⟨c.toArray⟩] 109)).drew := ((Chg.refl NoB _).alloc _).drew
            have hrow : Sl ((w3.alloc (.cells (ic x) 24)).alloc (.cells #[.int .i64 n, .int .i64 st.l.length, .string ⟨c.toArray⟩] 109)).drew (fun k => k = (w3.alloc (.cells (ic x) 24)).heap.size) 3 (.slice (some ⟨(w3.alloc (.cells (ic x) 24)).heap.size, 0, none⟩) 1 1) 1 [.int .i64 n, .int .i64 st.l.length, .string ⟨c.toArray⟩] :=
              (Sl.fresh (w3.alloc (.cells (ic x) 24)) [.int .i64 n, .int .i64 st.l.length, .string ⟨c.toArray⟩] 109 1 rfl).chg (Chg.refl NoB _).drew fun _ _ => id
            have hz : (w3.alloc (.cells (ic x) 24)).heap.size = w3.heap.size + 1 := by simp
            refine hK _ _ ⟨C10.cell b0 id, C10.cell b2 id⟩ ?_
            clear hK K
            have hBx := C10.blk0 HB8.out
            have C110 := HC4.out.step C10
            rw [hz] at hrow
            clear C10
            generalize hw10 : ((w3.alloc (.cells (ic x) 24)).alloc (.cells #[.int .i64 n, .int .i64 st.l.length, .string ⟨c.toArray⟩] 109)).drew = w10 at hrow hBx C110
            rw [show ((w3.alloc (.cells #[.int .i64 x.op, .int .i64 x.rd, .int .i64 x.rs, .int .i64 x.rt, .int .i64 x.im] 24)).alloc (.cells #[.int .i64 n, .int .i64 st.l.length, .string ⟨c.toArray⟩] 109)).drew = w10 from hw10]
            refine wpForce_cons rfl (fun K2 hK2 => ?_)
            obtain ⟨j0, hj0, hjz0, hjz1, hjz2⟩ := info_parts JTinfo
            have hone : ∀ u ∈ [Value.int .i64 n, .int .i64 st.l.length, .string ⟨c.toArray⟩], u.oneCell' = true := by simp [Value.oneCell']
            have hO10 := HX4.out.2.2.2.2.2.1.chg0 C110
            refine opwp_app (v := .slice jp st.js.length jc) _ _ 69 rfl j0 _ 32 Tryz.underlying69 hj0 hjz0 hjz1 hjz2 rfl (by rfl) hO10 _ 1 _ (by rfl) hrow hone (by unfold maxLen; omega) (by omega) ?_
            intro v11 w11 o11 g11 _
            obtain ⟨p11, c11, rfl⟩ := o11.form
            have hOB := HX4.out.2.2.2.2.2.1.ownBlock
            have C11 : Chg (fun k => (Value.slice jp st.js.length jc).ownBlock = some k) w10 w11 := (Chg.refl _ w10).grown g11 (fun k hk => .inl hk)
            have hgx : w1.heap.size ≤ w3.heap.size := HC3.out.size
            have hBx11 := C11.blk hBx (fun e => by have := (hOB _ e).2; omega)
            have hb3 : ¬ (Value.slice jp st.js.length jc).ownBlock = some b := fun e => by
              have h1 := (hOB _ e).1.1
              have h2 := HX4.out.2.1.1
              omega
            have hBb11 := C11.blk (C110.blk0 HX4.out.1) hb3
            have hbw := HX4.out.1.lt
            have v0 := hBb11.cell' (i := 0) (v := .slice lp st.l.length lc) rfl
            have v2 := hBb11.cell' (i := 2) (v := .slice jp st.js.length jc) rfl
            have vf := hBb11.frozen 2
            have vl := hBb11.lt
            refine hK2 _ _ ⟨v0, v2⟩ ?_
            refine wpForce_nil ?_
            obtain ⟨hX12, hC12⟩ := HX4.out.js C110 o11 g11 (js := st.js ++ [(n, st.l.length, c)]) (by simp) (jC_app ..).symm
            have hBx12 := hBx11.set_ne (a := ⟨b, 2, none⟩) (by show w3.heap.size ≠ b; omega) (.slice p11 (st.js.length + 1) c11)
            have HX12 := Lib.hid hX12
            have HC12 := Lib.hid hC12
            have HBx12 := Lib.hid hBx12
            clear hK2 K2 hw10 g11 o11 hO10 hone hrow hBx11 hBb11 hBx C11 C110 v0 hX12 hC12 hBx12 hOB hb3 hj0 hjz0 hjz1 hjz2 b0 b2 hbl
            go_upto_region 9 with fail
            generalize hw12 : w11.setCell ⟨b, 2, none⟩ (.slice p11 (st.js.length + 1) c11) = w12 at *
            clear hw12 v2 vf vl
            have b0 := HX12.out.1.cell' (i := 0) (v := .slice lp st.l.length lc) rfl
            have z0 := HBx12.out.cell' (i := 0) (v := .int .i64 x.op) rfl
            have z1 := HBx12.out.cell' (i := 1) (v := .int .i64 x.rd) rfl
            have z2 := HBx12.out.cell' (i := 2) (v := .int .i64 x.rs) rfl
            have z3 := HBx12.out.cell' (i := 3) (v := .int .i64 x.rt) rfl
            have z4 := HBx12.out.cell' (i := 4) (v := .int .i64 x.im) rfl
            refine wp_region_take 8 [0, 1, 2, 3, 4, 5] [6, 7] (fun w' => w'.cell? ⟨b, 0, none⟩ = some (.slice lp st.l.length lc) ∧ w'.cell? ⟨w3.heap.size, 0, none⟩ = some (.int .i64 x.op) ∧ w'.cell? ⟨w3.heap.size, 1, none⟩ = some (.int .i64 x.rd) ∧ w'.cell? ⟨w3.heap.size, 2, none⟩ = some (.int .i64 x.rs) ∧ w'.cell? ⟨w3.heap.size, 3, none⟩ = some (.int .i64 x.rt) ∧ w'.cell? ⟨w3.heap.size, 4, none⟩ = some (.int .i64 x.im)) (by kernel_rfl) (by kernel_rfl) (fun _ _ _ _ _ h => h) (⟨b0, z0, z1, z2, z3, z4⟩) ?_
            simp only [pickOps_nil, pickOps_cons, Option.getD_some, List.getElem?_toArray, List.getElem?_cons_zero, List.getElem?_cons_succ, List.cons_append, List.nil_append, List.drop_succ_cons, List.drop_zero]
            repeat
              refine wpTake_cons' rfl ?_
              apply Exists.intro
              refine ⟨fun wS hS => ?_, ?_⟩
              · try dsimp only at hS
                obtain ⟨b0, z0, z1, z2, z3, z4⟩ := hS
                go_simp
                try rfl
              simp only [Act.put, List.setIfInBounds_toArray, List.set_cons_zero, List.set_cons_succ]
            refine wpTake_nil ?_
            refine wpForce_cons rfl (fun K hK => ?_)
            go_simp
            have C13 : Chg NoB w12 (w12.alloc (.cells #[.int .i64 x.op, .int .i64 x.rd, .int .i64 x.rs, .int .i64 x.rt, .int .i64 x.im] 24)).drew := ((Chg.refl NoB _).alloc _).drew
            have hrow : Sl (w12.alloc (.cells #[.int .i64 x.op, .int .i64 x.rd, .int .i64 x.rs, .int .i64 x.rt, .int .i64 x.im] 24)).drew (fun k => k = w12.heap.size) 5 (.slice (some ⟨w12.heap.size, 0, none⟩) 1 1) 1 [.int .i64 x.op, .int .i64 x.rd, .int .i64 x.rs, .int .i64 x.rt, .int .i64 x.im] :=
              (Sl.fresh w12 [.int .i64 x.op, .int .i64 x.rd, .int .i64 x.rs, .int .i64 x.rt, .int .i64 x.im] 24 1 rfl).chg (Chg.refl NoB _).drew fun _ _ => id
            refine hK _ _ ⟨C13.cell b0 id, C13.cell z0 id, C13.cell z1 id, C13.cell z2 id, C13.cell z3 id, C13.cell z4 id⟩ ?_
            clear hK K
            generalize hw13 : (w12.alloc (.cells #[.int .i64 x.op, .int .i64 x.rd, .int .i64 x.rs, .int .i64 x.rt, .int .i64 x.im] 24)).drew = w13 at *
            refine wpForce_cons rfl (fun K2 hK2 => ?_)
            obtain ⟨j0, hj0, hjz0, hjz1, hjz2⟩ := info_parts INinfo
            have hone : ∀ u ∈ [Value.int .i64 x.op, .int .i64 x.rd, .int .i64 x.rs, .int .i64 x.rt, .int .i64 x.im], u.oneCell' = true := by simp [Value.oneCell']
            have hO13 := HX12.out.2.2.2.2.1.chg0 C13
            refine opwp_app (v := .slice lp st.l.length lc) _ _ 36 rfl j0 _ 40 Tryz.underlying36 hj0 hjz0 hjz1 hjz2 rfl (by rfl) hO13 _ 1 _ (by rfl) hrow hone (by show st.l.length + 1 ≤ maxLen; unfold maxLen; omega) (by show (st.l.length + 1) * 40 ≤ _; omega) ?_
            intro v14 w14 o14 g14 _
            obtain ⟨p14, c14, rfl⟩ := o14.form
            have hOB := HX12.out.2.2.2.2.1.ownBlock
            have C14 : Chg (fun k => (Value.slice lp st.l.length lc).ownBlock = some k) w13 w14 := (Chg.refl _ w13).grown g14 (fun k hk => .inl hk)
            have hb3 : ¬ (Value.slice lp st.l.length lc).ownBlock = some b := fun e => by
              have h1 := (hOB _ e).1.1
              have h2 := HX12.out.2.1.1
              omega
            have hx3 : ¬ (Value.slice lp st.l.length lc).ownBlock = some w3.heap.size := fun e => by
              have h1 := (HX4.out.2.2.2.2.1.ownBlock _ e).2
              omega
            have hBb14 := C14.blk (C13.blk0 HX12.out.1) hb3
            have hBx14 := C14.blk (C13.blk0 HBx12.out) hx3
            have v0 := hBb14.cell' (i := 0) (v := .slice lp st.l.length lc) rfl
            have y0 := hBx14.cell' (i := 0) (v := .int .i64 x.op) rfl
            have y1 := hBx14.cell' (i := 1) (v := .int .i64 x.rd) rfl
            have y2 := hBx14.cell' (i := 2) (v := .int .i64 x.rs) rfl
            have y3 := hBx14.cell' (i := 3) (v := .int .i64 x.rt) rfl
            have y4 := hBx14.cell' (i := 4) (v := .int .i64 x.im) rfl
            have vf := hBb14.frozen 0
            have vl := hBb14.lt
            refine hK2 _ _ ⟨v0, y0, y1, y2, y3, y4⟩ ?_
            refine wpForce_nil ?_
            obtain ⟨hX15, hC15⟩ := HX12.out.li C13 o14 g14 (l := st.l ++ [x]) (by simp) (iC_app ..).symm
            have HX15 := Lib.hid hX15
            have HC15 := Lib.hid hC15
            clear hK2 K2 hw13 g14 o14 hO13 hone hrow hBb14 hBx14 C14 C13 y0 y1 y2 y3 y4 hX15 hC15 hOB hb3 hx3 hj0 hjz0 hjz1 hjz2 b0 z0 z1 z2 z3 z4
            go_wp2_with fail
            go_ret
            exact ⟨_, rfl, by rw [HQ4.out]; rfl, HC12.out.step HC15.out, fun x' nm h => by
              rw [HQ4.out] at h
              cases h
              exact ⟨_, _, _, _, HX15.out⟩⟩
        · have HQ4 : Hid (namedP s = none) := Lib.hid (by rw [HQ3.out, if_neg hk])
          have q1 : ((kd x.op).s.toList == [66]) = false := by
            have h1 : kd x.op ≠ .B := fun e => hk (.inl e)
            revert h1; cases kd x.op <;> intro h <;> first | exact absurd rfl h | decide +kernel
          have q2 : ((kd x.op).s.toList == [74]) = false := by
            have h1 : kd x.op ≠ .J := fun e => hk (.inr e)
            revert h1; cases kd x.op <;> intro h <;> first | exact absurd rfl h | decide +kernel
          have q3 : ((kd x.op).s.toList != [66]) = true := by rw [bne, q1]; rfl
          have q4 : ((kd x.op).s.toList != [74]) = true := by rw [bne, q2]; rfl
          rw [← hw4]
          clear hk hw4
          go_wp2_with fail
          go_ret
          exact ⟨_, rfl, by rw [HQ4.out]; rfl, (HC3.out.alloc _).mono fun _ _ h => h.elim, fun x nm h => by rw [HQ4.out] at h; cases h⟩
end Go.Proofs.YtfidiiifcmmffaaGreatDoor
