/- The sender: Acked; what layer 17's statements ask first. -/
import Derived.Test.YtokigldggkkbcaaSend7
set_option linter.unusedVariables false
namespace Go.Proofs.Ytokigldggkkbcaa
open Go.RowKit Go.RR

def ackF (ack next : Int) (fl : List Fl) : List Fl := if next < ack then fl else fl.filter fun f => !decide (f.seq < ack)
theorem zip_maps {α β : Type} : ∀ ps : List (α × β), (ps.map (·.1)).zip (ps.map (·.2)) = ps
  | [] => rfl
  | p :: ps => by simp [zip_maps ps]
theorem keepP_fst (ack : Int) : ∀ (fl : List Fl) (fs : List Value), fs.length = fl.length → (keepP ack (fl.zip fs)).map (·.1) = fl.filter fun f => !decide (f.seq < ack)
  | [], _, _ => by simp [keepP]
  | f :: fl, [], h => by simp at h
  | f :: fl, v :: fs, h => by
    have := keepP_fst ack fl fs (by simpa using h)
    unfold keepP at this ⊢
    simp only [List.zip_cons_cons, List.filter_cons]
    by_cases hs : f.seq < ack <;> simp [hs] <;> simpa using this
theorem keepP_rows {w : World} {S : Nat → Prop} (ack : Int) (fl : List Fl) (fs : List Value) (h : RowsAt w S fs (fbodies fl)) : RowsAt w S ((keepP ack (fl.zip fs)).map (·.2)) (fbodies ((keepP ack (fl.zip fs)).map (·.1))) := by
  refine ⟨by simp [fbodies], fun i us hi => ?_⟩
  simp only [fbodies, List.map_map, List.getElem?_map, Option.map_eq_some_iff] at hi
  obtain ⟨p, hp, rfl⟩ := hi
  have hm : p ∈ fl.zip fs := (List.mem_filter.1 (List.mem_of_getElem? hp)).1
  obtain ⟨j, hj⟩ := List.mem_iff_getElem?.1 hm
  rw [List.getElem?_zip_eq_some] at hj
  obtain ⟨v, hv, hvs⟩ := h.2 j _ (show (fbodies fl)[j]? = some (byteCells p.1.b) by simp [fbodies, hj.1])
  rw [hj.2] at hv
  cases hv
  exact ⟨p.2, by simp [hp], hvs⟩

set_option maxHeartbeats 2000000 in
set_option maxRecDepth 100000 in
theorem ackedAt {S : Nat → Prop} {w : World} {b : Nat} {window wait longest : Int} {line : List ByteArray} {fl : List Fl} {next : Int} (h : SendAt S w b window wait longest line fl next) (hlen : fl.length ≤ 100000) (ack : Int) (fl2 : List Fl) (hf : ackF ack next fl = fl2) :
    Calls Try.prog 56 #[.pointer (some ⟨b, 0, none⟩), .int .u64 ack] w (RetW (.int .i64 ((fl.length : Int) - fl2.length)) fun w' => SendAt S w' b window wait longest line fl2 next ∧ Chg S w w') := by
  have HH := Lib.hid h
  obtain ⟨S1, S2, S3, lv, fv, ls, fs, h0, h1, h2, h3, hB, hL, hR, hF, hQ⟩ := h
  obtain ⟨p1, c1, rfl⟩ := hL.form
  obtain ⟨p2, c2, rfl⟩ := hF.form
  have hb0 := hB.lt
  have hS2 : ∀ k, (Value.slice p2 fl.length c2).ownBlock = some k → S2 k ∧ k < w.heap.size := hF.ownBlock
  have A1 := (Chg.refl NoB w).alloc (.cells #[.int .u64 ack] 28)
  have ha := (Blk.new w #[.int .u64 ack] 28).cell' (i := 0) (v := .int .u64 ack) (by rfl)
  have B1 := A1.blk0 hB
  have x4 := B1.cell' (i := 4) (v := .slice p2 fl.length c2) (by rfl)
  have x5 := B1.cell' (i := 5) (v := .int .u64 next) (by rfl)
  have xl := B1.lt
  have HF := Lib.hid hF
  have HF1 := Lib.hid ((hF.monoIn (S' := fun k => S2 k ∧ k < w.heap.size) fun k a b => ⟨b, a⟩).chg0 A1)
  have HL := Lib.hid (hL.chg0 A1)
  have HR := Lib.hid (hR.chg0 A1)
  have HQ := Lib.hid (hQ.chg0 A1)
  have HB1 := Lib.hid B1
  have HB := Lib.hid hB
  have H1 := Lib.hid h1
  have H2 := Lib.hid h2
  have H3 := Lib.hid h3
  have HA1 := Lib.hid A1
  have hfs : fs.length = fl.length := by have := hQ.1; simpa [fbodies] using this
  have HFS := Lib.hid hfs
  have HFF := Lib.hid hf
  clear hB hL hR hF hQ h1 h2 h3 B1 hfs hf
  by_cases hn : next < ack
  · have d : decide (next < ack) = true := by simpa using hn
    have h2f := HFF.out
    unfold ackF at h2f
    rw [if_pos hn] at h2f
    subst h2f
    clear HFF
    go_enter Try.func56, Try.ntmps56
    go_wp2_with fail
    go_quiet (fail)
    go_wp2
    go_ret
    have CD := HA1.out.drewN nq
    have : (fl.length : Int) - fl.length = 0 := by omega
    rw [this]
    exact ⟨rfl, SendAt.chg0 HH.out CD, CD.mono fun _ _ h => h.elim⟩
  · have d : decide (next < ack) = false := by simpa using hn
    have h2f := HFF.out
    unfold ackF at h2f
    rw [if_neg hn] at h2f
    have HF2 := Lib.hid h2f
    clear h2f
    go_enter Try.func56, Try.ntmps56
    go_wp2_with fail
    go_quiet (fail)
    have CD := (Chg.refl NoB (w.alloc (.cells #[.int .u64 ack] 28))).drewN nq
    generalize hwd : (w.alloc (.cells #[.int .u64 ack] 28)).drewN nq = wd at *
    have y4 := CD.cell x4 id
    have yl : b < wd.heap.size := Nat.lt_of_lt_of_le xl CD.size
    have ya := CD.cell ha id
    have hzd : w.heap.size + 1 ≤ wd.heap.size := by have := CD.size; simpa using this
    have HF3 := Lib.hid (HF1.out.chg0 CD)
    have HQ3 := Lib.hid (HQ.out.chg0 CD)
    have HCD := Lib.hid CD
    clear x4 x5 xl ha hwd CD
    go_wp2_with fail
    refine (delAt w.heap.size ack _ fl fs ya (fun e => by have := e.2; omega) HF3.out HQ3.out hlen).mono ?_
    rintro e w3 ⟨v3, rfl, O3, C3⟩
    have hkf := keepP_fst ack fl fs HFS.out
    rw [HF2.out] at hkf
    have hkl : (keepP ack (fl.zip fs)).length = fl2.length := by rw [← hkf, List.length_map]
    have hpc : pcells (keepP ack (fl.zip fs)) = fcells fl2 ((keepP ack (fl.zip fs)).map (·.2)) := by rw [pcells_zip, ← hkf, zip_maps]
    rw [hkl, hpc] at O3
    obtain ⟨p3, c3, rfl⟩ := O3.form
    have hl2 : fl2.length ≤ fl.length := by rw [← HF2.out]; exact List.length_filter_le _ _
    have B3 := C3.blk (HCD.out.blk0 HB1.out) (fun e => (H2.out b e.1).2.1 rfl)
    have z4 := B3.cell' (i := 4) (v := .slice p2 fl.length c2) (by rfl)
    have zf := B3.frozen 4
    have zl := B3.lt
    have HB3 := Lib.hid B3
    have HO3 := Lib.hid O3
    have HKF := Lib.hid hkf
    clear y4 yl ya B3 O3 hkf hkl hpc
    go_wp2_with fail
    go_ret
    have CS := (Chg.refl (· = b) w3).setCell (a := ⟨b, 4, none⟩) (.inl rfl) (.slice p3 fl2.length c3)
    have hQ2 := keepP_rows ack fl fs ((HQ3.out.chg C3 fun k hk e => (H2.out k e.1).2.2 hk).chg CS fun k hk e => (H3.out k hk).2 e)
    rw [HKF.out] at hQ2
    refine ⟨rfl, ⟨S1, S2, S3, _, _, ls, (keepP ack (fl.zip fs)).map (·.2), h0, H1.out, H2.out, H3.out, HB3.out.set 4 _, ?_, ?_, ?_, hQ2⟩, ?_⟩
    · exact ((HL.out.chg0 HCD.out).chg C3 fun k hk e => (H1.out k hk).2.2.1 e.1).chg CS fun k hk e => (H1.out k hk).2.1 e
    · exact ((HR.out.chg0 HCD.out).chg C3 fun k hk e => (H2.out k e.1).2.2 hk).chg CS fun k hk e => (H3.out k hk).2 e
    · exact (HO3.out.mono fun k h => h.1).chg CS fun k hk e => (H2.out k hk).2.1 e
    · exact (((HA1.out.then0 HCD.out).mono (S' := S) fun _ _ h => h.elim).trans C3 fun k _ e => (H2.out k e.1).1).trans CS fun k _ e => e ▸ h0
end Go.Proofs.Ytokigldggkkbcaa
