/- Jumps linked to their labels, by the program. No condition. -/
import Derived.Test.YtfidiiifcmmffaaGreatDoorAsm19
set_option linter.unusedVariables false
set_option linter.unusedSimpArgs false
namespace Go.Proofs.YtfidiiifcmmffaaGreatDoor
open Go.RowKit Go.RR
theorem flat_len {α : Type} (f : α → List Value) (c : Nat) (hf : ∀ a, (f a).length = c) : ∀ l : List α, (l.flatMap f).length = l.length * c
  | [] => by simp
  | a :: l => by rw [List.flatMap_cons, List.length_append, hf, flat_len f c hf l, List.length_cons, Nat.succ_mul]; omega
theorem flat_get {α : Type} (f : α → List Value) (c : Nat) (hf : ∀ a, (f a).length = c) : ∀ (l : List α) (n : Nat) (a : α) (q : Nat), l[n]? = some a → q < c → (l.flatMap f)[n * c + q]? = (f a)[q]?
  | [], n, a, q, h, _ => by cases h
  | b :: l, 0, a, q, h, hq => by
    cases h
    rw [List.flatMap_cons, Nat.zero_mul, Nat.zero_add, List.getElem?_append_left (by rw [hf]; exact hq)]
  | b :: l, n + 1, a, q, h, hq => by
    rw [List.flatMap_cons, List.getElem?_append_right (by rw [hf, Nat.succ_mul]; omega), hf, show (n + 1) * c + q - c = n * c + q by rw [Nat.succ_mul]; omega]
    exact flat_get f c hf l n a q h hq
theorem iC_get {l : List In} {n : Nat} {i : In} (h : l[n]? = some i) {q : Nat} (hq : q < 5) : (iC l)[n * 5 + q]? = (ic i)[q]? := by
  unfold iC
  rw [flat_get _ 5 (fun _ => rfl) l n i q h hq, Array.getElem?_toList]
theorem jC_get {js : List (Nat × Nat × Bs)} {n : Nat} {j : Nat × Nat × Bs} (h : js[n]? = some j) {q : Nat} (hq : q < 3) : (jC js)[n * 3 + q]? = ([.int .i64 j.1, .int .i64 j.2.1, .string ⟨j.2.2.toArray⟩] : List Value)[q]? := by
  unfold jC
  rw [flat_get _ 3 (fun _ => rfl) js n j q h hq]
theorem setIm_len (l : List In) (k : Nat) (im : Int) : (setIm l k im).length = l.length := by unfold setIm; rw [List.length_modify]
theorem iC_setIm : ∀ (l : List In) (k : Nat) (im : Int), k < l.length → iC (setIm l k im) = (iC l).set (k * 5 + 4) (.int .i64 im)
  | [], k, im, h => by simp at h
  | i :: l, 0, im, h => rfl
  | i :: l, k + 1, im, h => by
    have ih := iC_setIm l k im (by simpa using h)
    have e1 : setIm (i :: l) (k + 1) im = i :: setIm l k im := rfl
    have e2 : ∀ l', iC (i :: l') = (ic i).toList ++ iC l' := fun _ => rfl
    rw [e1, e2, e2, ih, List.set_append_right _ _ (by show 5 ≤ _; omega)]
    congr 2
    show k * 5 + 4 = (k + 1) * 5 + 4 - 5
    omega
/-- The jumps and labels of a reader are within its program. -/
def JsOk (st : PSt) : Prop := (∀ j ∈ st.js, 1 ≤ j.1 ∧ j.1 ≤ 100000 ∧ j.2.1 < st.l.length) ∧ ∀ p ∈ st.ls, p.2 ≤ st.l.length
theorem lookL_mem {ls : List (Bs × Nat)} {k : Bs} {q : Nat} (h : lookL ls k = some q) : ∃ p ∈ ls, p.2 = q := by
  unfold lookL at h
  cases hf : ls.find? (fun p => p.1 == k) with
  | none => rw [hf] at h; cases h
  | some p => rw [hf] at h; cases h; exact ⟨p, List.mem_of_find?_eq_some hf, rfl⟩
theorem RdX.im {G : Nat → Prop} {w : World} {H b : Nat} {st : PSt} {t : Nat → Nat} {g o c n mb : Nat} {jv : Value} (hn : st.l.length = n) (h : RdX G w H b st t (.slice (some ⟨g, o, none⟩) n c) mb jv) {k : Nat} (hk : k < st.l.length) (im : Int) :
    RdX G (w.setCell ⟨g, o + (k * 5 + 4), none⟩ (.int .i64 im)) H b ⟨setIm st.l k im, st.ls, st.js⟩ t (.slice (some ⟨g, o, none⟩) n c) mb jv ∧ Chg (FS H G) w (w.setCell ⟨g, o + (k * 5 + 4), none⟩ (.int .i64 im)) := by
  subst hn
  obtain ⟨h1, ⟨h2, h2'⟩, ⟨h3, h3'⟩, h4, h5, h6, hGc⟩ := h
  have hg := h5.at.1
  have h7 := h5.setAt (k := k * 5 + 4) (by omega) (.int .i64 im)
  have C : Chg (fun k => k = g) w (w.setCell ⟨g, o + (k * 5 + 4), none⟩ (.int .i64 im)) := (Chg.refl (fun k => k = g) w).setCell (a := ⟨g, o + (k * 5 + 4), none⟩) (.inl rfl) _
  refine ⟨⟨C.blk h1 (fun e => by have := hg.1; rw [← e] at this; omega), ⟨h2, h2'⟩, ⟨h3, h3'⟩, h4.chg C (fun e => by have := hg.1; rw [← e] at this; omega), ?_, ?_, fun k hk => ⟨(hGc k hk).1, Nat.lt_of_lt_of_le (hGc k hk).2 C.size⟩⟩, C.mono fun k _ e => by rw [e]; exact ⟨hg.2.1, fun hgg => by have h8 := (hGc g hgg).1; have h9 := hg.1; omega⟩⟩
  · rw [iC_setIm _ _ _ hk, setIm_len]
    exact h7.mono fun k hk => hk.more C.size
  · exact (h6.chg C fun k hk e => by have h8 := hk.1; have h9 := hg.1; rw [e] at h8; omega).mono fun k hk => hk.more C.size
def Linked (G : Nat → Prop) (o : List In ⊕ Nat) (H b : Nat) (st : PSt) (w : World) (v : Value) (w' : World) : Prop := Chg (FS H G) w w' ∧ match o with
  | .inl l => v = .int .i64 0 ∧ l.length = st.l.length ∧ RdS G w' H b ⟨l, st.ls, st.js⟩
  | .inr n => v = .int .i64 n ∧ 1 ≤ n ∧ n ≤ 100000
set_option maxHeartbeats 8000000 in
set_option maxRecDepth 100000 in
theorem link_any {G : Nat → Prop} (H b : Nat) (st : PSt) (w : World) (hl : st.l.length ≤ 100000) (hjl : st.js.length ≤ 100000) (hok : JsOk st) (hR : RdS G w H b st) :
    Calls Tryz.prog 38 #[.pointer (some ⟨b, 0, none⟩)] w (RetV fun v w' => Linked G (linkF st.ls st.js st.l) H b st w v w') := by
  obtain ⟨t, lv, mb, jv, hX⟩ := hR
  obtain ⟨jp, jc, hjv⟩ := Own.slice hX.2.2.2.2.2.1
  obtain ⟨lp, lc, hlv⟩ := Own.slice hX.2.2.2.2.1
  subst hjv hlv
  obtain ⟨nl, hnl⟩ : ∃ nl, st.l.length = nl := ⟨_, rfl⟩
  rw [hnl] at hX
  have HNL := Lib.hid hnl
  have HX := Lib.hid hX
  have HOK := Lib.hid hok
  have b2 := hX.1.cell' (i := 2) (v := .slice jp st.js.length jc) rfl
  clear hX hok
  obtain ⟨F, hF⟩ : ∃ F, linkF st.ls st.js st.l = F := ⟨_, rfl⟩
  rw [hF]
  have HF := Lib.hid hF
  obtain ⟨nj, hnj⟩ : ∃ nj, st.js.length = nj := ⟨_, rfl⟩
  rw [hnj] at HX b2 hjl
  have HNJ := Lib.hid hnj
  clear hF hnj hnl
  go_enter Tryz.func38, Tryz.ntmps38
  go_wp2_with fail
  go_loopg [13] nj (fun g ix wr => ∃ (k : Nat) (lk : List In), k + g = nj ∧ ix = .int .i64 k ∧ lk.length = nl ∧ F = linkF st.ls (st.js.drop k) lk ∧ RdX G wr H b ⟨lk, st.ls, st.js⟩ t (.slice lp nl lc) mb (.slice jp nj jc) ∧ Chg (FS H G) w wr)
  case atStart => exact ⟨0, st.l, Nat.zero_add _, rfl, HNL.out, HF.out.symm, HX.out, Chg.refl _ _⟩
  case round =>
    obtain ⟨k, lk, hk, rfl, hlk, hFk, hXk, hCk⟩ := hrel
    rename World => wr
    have HK := Lib.hid hk
    have HLK := Lib.hid hlk
    have HFK := Lib.hid hFk
    have HXK := Lib.hid hXk
    have HCK := Lib.hid hCk
    have hkn : k ≤ nj := by omega
    clear hk hlk hFk hXk hCk b2
    by_cases hlt : k < nj
    · obtain ⟨⟨jn, ji, nm⟩, hj⟩ : ∃ j, st.js[k]? = some j := ⟨_, List.getElem?_eq_getElem (by rw [HNJ.out]; exact hlt)⟩
      have hjm := HOK.out.1 _ (List.mem_of_getElem? hj)
      simp only at hjm
      obtain ⟨hj1, hj2, hj3⟩ := hjm
      obtain ⟨gj, oj, cj, hje, hjs, hjl2, hjn, hjc, _⟩ := HXK.out.2.2.2.2.2.1.spot (by rw [HNJ.out]; omega)
      obtain ⟨rfl, -, rfl⟩ : jp = some ⟨gj, oj, none⟩ ∧ nj = st.js.length ∧ jc = cj := by simpa using hje
      have e0 := hjc _ _ ((jC_get hj (q := 0) (by omega)).trans rfl)
      have e1 := hjc _ _ ((jC_get hj (q := 1) (by omega)).trans rfl)
      have e2 := hjc _ _ ((jC_get hj (q := 2) (by omega)).trans rfl)
      simp only [Nat.add_zero, ← Nat.add_assoc] at e0 e1 e2
      have k0 : (0 : Int) ≤ k := by omega
      have k1 : (k : Int) < nj := by omega
      have b1 := HXK.out.1.cell' (i := 1) (v := .map (some mb)) rfl
      have hdr : F = linkF st.ls ((jn, ji, nm) :: st.js.drop (k + 1)) lk := by
        rw [HFK.out, List.drop_eq_getElem_cons (by rw [HNJ.out]; exact hlt)]
        have : st.js[k]'(by rw [HNJ.out]; exact hlt) = (jn, ji, nm) := by
          have := List.getElem?_eq_getElem (l := st.js) (i := k) (by rw [HNJ.out]; exact hlt)
          rw [this] at hj
          exact Option.some.inj hj
        rw [this]
      have hbl := HXK.out.1.lt
      have HDR := Lib.hid hdr
      have HJS := Lib.hid hjs
      clear hj hdr hjc hjs
      have HC4 : Hid (Chg NoB wr (wr.alloc (.cells #[.int .i64 jn, .int .i64 ji, .string ⟨nm.toArray⟩] 109))) := Lib.hid ((Chg.refl NoB wr).alloc _)
      have HB4 := Lib.hid (Blk.new wr #[.int .i64 jn, .int .i64 ji, .string ⟨nm.toArray⟩] 109)
      have HX4 := Lib.hid (HXK.out.chg0 HC4.out)
      have z1 := HB4.out.cell' (i := 1) (v := .int .i64 ji) rfl
      have z2 := HB4.out.cell' (i := 2) (v := .string ⟨nm.toArray⟩) rfl
      have z0 := HB4.out.cell' (i := 0) (v := .int .i64 jn) rfl
      have hlk : ∀ n, (Instr.lookup 68 (.map (some mb)) (.string ⟨nm.toArray⟩) true).run Tryz.prog ((wr.alloc (.cells #[.int .i64 jn, .int .i64 ji, .string ⟨nm.toArray⟩] 109)).drewN n) = .ok (.tuple #[((lookL st.ls nm).map fun n : Nat => Value.int .i64 n).getD (.int .i64 0), .bool ((lookL st.ls nm).map fun n : Nat => Value.int .i64 n).isSome]) ((wr.alloc (.cells #[.int .i64 jn, .int .i64 ji, .string ⟨nm.toArray⟩] 109)).drewN n) := fun n => by
        have := Srun_look2 (P := Tryz.prog) (t := 68) (kt := 9) (e := 3) (z := .int .i64 0) rfl rfl rfl rfl (HX4.out.chg0 ((Chg.refl NoB _).drewN n)).2.2.2.1 ⟨nm.toArray⟩
        rw [smlook_lC] at this
        exact this
      cases hq : lookL st.ls nm with
      | none =>
        have HFZ : Hid (F = .inr jn) := Lib.hid (by rw [HDR.out]; unfold linkF; rw [hq])
        rw [hq] at hlk
        simp only [Option.map_none, Option.getD_none, Option.isSome_none] at hlk
        clear hq
        go_wp2_with fail
        go_quiet (fail)
        go_wp2_with fail
        go_ret
        refine ⟨_, rfl, HCK.out.step ((HC4.out.drewN nq).mono fun _ _ h => h.elim), ?_⟩
        rw [HFZ.out]
        exact ⟨rfl, hj1, hj2⟩
      | some q =>
        obtain ⟨pq, hpm, hpq⟩ := lookL_mem hq
        have hqb : q ≤ 100000 := by have := HOK.out.2 pq hpm; omega
        rw [hq] at hlk
        simp only [Option.map_some, Option.getD_some, Option.isSome_some] at hlk
        have HFQ : Hid (F = if (q : Int) - ji < -2048 ∨ 2048 ≤ (q : Int) - ji then .inr jn else linkF st.ls (st.js.drop (k + 1)) (setIm lk ji (q - ji))) := Lib.hid (by rw [HDR.out]; conv => lhs; unfold linkF; rw [hq])
        have i0 : (0 : Int) ≤ ji := by omega
        have i1 : (ji : Int) ≤ 100000 := by omega
        have i2 : (q : Int) ≤ 100000 := by omega
        have i3 : (0 : Int) ≤ q := by omega
        obtain ⟨d, hd⟩ : ∃ d : Int, (q : Int) - ji = d := ⟨_, rfl⟩
        rw [hd] at HFQ
        obtain ⟨b1', q1⟩ : ∃ b, decide (d < -2048) = b := ⟨_, rfl⟩
        obtain ⟨b2', q2⟩ : ∃ b, decide (2048 ≤ d) = b := ⟨_, rfl⟩
        have HFD : Hid (F = if b1' = true ∨ b2' = true then .inr jn else linkF st.ls (st.js.drop (k + 1)) (setIm lk ji d)) := Lib.hid (by
          rw [HFQ.out, ← q1, ← q2]; simp only [decide_eq_true_eq])
        clear hq hpm hpq HFQ
        cases b1'
        · cases b2'
          · have HFS : Hid (F = linkF st.ls (st.js.drop (k + 1)) (setIm lk ji d)) := Lib.hid (by rw [HFD.out, if_neg (by simp)])
            have hjil : ji < lk.length := by have := HLK.out; have := HNL.out; omega
            obtain ⟨gl, ol, cl, hle, hls, hll, hln, hlc, hlf⟩ := HXK.out.2.2.2.2.1.spot (by show 0 < lk.length; omega)
            obtain ⟨rfl, rfl⟩ : lp = some ⟨gl, ol, none⟩ ∧ lc = cl := by
              simp only [Value.slice.injEq] at hle
              exact ⟨hle.1, hle.2.2⟩
            obtain ⟨io, hio⟩ : ∃ io, lk[ji]? = some io := ⟨_, List.getElem?_eq_getElem hjil⟩
            have hold := hlc _ _ ((iC_get hio (q := 4) (by omega)).trans rfl)
            simp only [← Nat.add_assoc] at hold
            have hfz := hlf (ol + ji * 5 + 4)
            have b0 := HXK.out.1.cell' (i := 0) (v := .slice (some ⟨gl, ol, none⟩) nl lc) rfl
            have i4 : (ji : Int) < nl := by have := HLK.out; omega
            have hji : ji < nl := by have := HLK.out; omega
            have HJI := Lib.hid hjil
            clear hle hls hln hlc hlf hio hjil
            go_wp2_with fail
            go_quiet (fail)
            go_wp2_with fail
            refine wp_region_plan 9 [] [0, 1, 2, 3, 4, 5, 6, 7, 8] (by kernel_rfl) (by kernel_rfl) (fun _ _ _ _ _ h => h) ?_
            simp only [pickOps_nil, pickOps_cons, Option.getD_some, List.getElem?_toArray, List.getElem?_cons_zero, List.getElem?_cons_succ, List.cons_append, List.nil_append, List.drop_succ_cons, List.drop_zero]
            repeat (go_big_quiet_step (fail))
            refine wpQuiet_nil ?_
            intro w6 hw6
            have C6 := Chg.of_ex hw6
            clear hw6
            have C06 := ((HC4.out.drewN nq).step C6)
            have HX6 := Lib.hid (HXK.out.chg0 C06)
            have HC6 := Lib.hid C06
            have hold6 := C06.cell hold id
            have hat : Own w6 (Tg t 2 H w6) 24 5 (.slice (some ⟨gl, ol, none⟩) nl lc) nl (iC lk) := by
              have := HX6.out.2.2.2.2.1
              rwa [show (PSt.mk lk st.ls st.js).l.length = nl from HLK.out] at this
            have hfz6 : w6.frozen? ⟨gl, ol + ji * 5 + 4, none⟩ = false := hat.at.2.2.2 _
            have hll6 : gl < w6.heap.size := hat.at.2.1
            clear hat
            clear C06 C6 hold hfz b0
            go_wp2_with fail
            go_roundg (st.js.length - (k + 1))
            case measure => have := HK.out; omega
            case rel =>
              obtain ⟨hX7, hC7⟩ := HX6.out.im HLK.out HJI.out d
              rw [← Nat.add_assoc] at hX7 hC7
              exact ⟨k + 1, setIm lk ji d, by have := HK.out; omega, by go_num, by rw [setIm_len]; exact HLK.out, HFS.out, hX7, (HCK.out.step (HC6.out.mono fun _ _ h => h.elim)).step hC7⟩
          · have HFZ : Hid (F = .inr jn) := Lib.hid (by rw [HFD.out, if_pos (.inr rfl)])
            go_wp2_with fail
            go_quiet (fail)
            go_wp2_with fail
            go_ret
            refine ⟨_, rfl, HCK.out.step ((HC4.out.drewN nq).mono fun _ _ h => h.elim), ?_⟩
            rw [HFZ.out]
            exact ⟨rfl, hj1, hj2⟩
        · have HFZ : Hid (F = .inr jn) := Lib.hid (by rw [HFD.out, if_pos (.inl rfl)])
          go_wp2_with fail
          go_quiet (fail)
          go_wp2_with fail
          go_ret
          refine ⟨_, rfl, HCK.out.step ((HC4.out.drewN nq).mono fun _ _ h => h.elim), ?_⟩
          rw [HFZ.out]
          exact ⟨rfl, hj1, hj2⟩
    · obtain rfl : nj = k := by omega
      have HFZ : Hid (F = .inl lk) := Lib.hid (by rw [HFK.out, List.drop_eq_nil_of_le (by rw [HNJ.out]; exact Nat.le_refl _)]; rfl)
      go_wp2_with fail
      go_ret
      refine ⟨_, rfl, HCK.out, ?_⟩
      rw [HFZ.out]
      exact ⟨rfl, HLK.out.trans HNL.out.symm, _, _, _, _, HXK.out⟩
end Go.Proofs.YtfidiiifcmmffaaGreatDoor
