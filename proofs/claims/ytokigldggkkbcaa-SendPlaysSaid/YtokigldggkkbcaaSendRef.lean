/- The reference's sender: Right, Same, Acked, Due. -/
import Derived.Test.YtokigldggkkbcaaSendPlain
import Derived.Test.YtokigldggkkbcaaStr
set_option linter.unusedVariables false
namespace Go.Proofs.Ytokigldggkkbcaa
open Go.RowKit Go.RR

def bcells (l : List Fl) : List Value := l.flatMap fun f => [.int .u64 f.seq, .string f.b, .int .i64 f.due, .int .i64 f.wait]
theorem bcells_len : ∀ ps : List Fl, (bcells ps).length = ps.length * 4
  | [] => rfl
  | p :: ps => by
    have := bcells_len ps
    simp only [bcells, List.flatMap_cons, List.length_append, List.length_cons, List.length_nil] at this ⊢; omega
theorem bcells_at : ∀ (ps : List Fl) (i : Nat) (p : Fl), ps[i]? = some p →
    (bcells ps)[i * 4]? = some (.int .u64 p.seq) ∧ (bcells ps)[i * 4 + 1]? = some (.string p.b) ∧ (bcells ps)[i * 4 + 2]? = some (.int .i64 p.due) ∧ (bcells ps)[i * 4 + 3]? = some (.int .i64 p.wait)
  | [], i, p, h => by simp at h
  | q :: ps, 0, p, h => by simp at h; subst h; exact ⟨rfl, rfl, rfl, rfl⟩
  | q :: ps, i + 1, p, h => by
    have := bcells_at ps i p (by simpa using h)
    rw [show (i + 1) * 4 = i * 4 + 4 by omega]
    exact this
theorem bcells_app (ps : List Fl) (p : Fl) : bcells (ps ++ [p]) = bcells ps ++ [.int .u64 p.seq, .string p.b, .int .i64 p.due, .int .i64 p.wait] := by simp [bcells]
theorem bcells_one (ps : List Fl) : ∀ u ∈ bcells ps, u.oneCell' = true := by
  intro u hu
  obtain ⟨p, -, h⟩ := List.mem_flatMap.1 hu
  simp at h
  rcases h with rfl | rfl | rfl | rfl <;> rfl

/-- The reference's sender lies in block c, all its memory in S. -/
def RefS (S : Nat → Prop) (w : World) (c : Nat) (window wait longest : Int) (line : List ByteArray) (fl : List Fl) (next : Int) : Prop :=
  ∃ lv fv, S c ∧ Blk w c #[.int .i64 window, .int .i64 wait, .int .i64 longest, lv, fv, .int .u64 next] 93 ∧ Sl w (fun k => S k ∧ k ≠ c) 1 lv line.length (line.map Value.string) ∧ Sl w (fun k => S k ∧ k ≠ c) 4 fv fl.length (bcells fl)
section
variable {S S' : Nat → Prop} {w w' : World} {c : Nat} {window wait longest : Int} {line : List ByteArray} {fl : List Fl} {next : Int}
theorem RefS.chg (h : RefS S w c window wait longest line fl next) (k : Chg S' w w') (hs : ∀ k, S k → ¬ S' k) : RefS S w' c window wait longest line fl next := by
  obtain ⟨lv, fv, h0, hB, hL, hF⟩ := h
  exact ⟨lv, fv, h0, k.blk hB (hs _ h0), hL.chg k fun q hq => hs q hq.1, hF.chg k fun q hq => hs q hq.1⟩
theorem RefS.chg0 (h : RefS S w c window wait longest line fl next) (k : Chg NoB w w') : RefS S w' c window wait longest line fl next := h.chg k fun _ _ => id
theorem RefS.bound (h : RefS S w c window wait longest line fl next) (hs : ∀ k, k < w.heap.size → S k → S' k) : RefS S' w c window wait longest line fl next := by
  obtain ⟨lv, fv, h0, hB, hL, hF⟩ := h
  exact ⟨lv, fv, hs _ hB.lt h0, hB, hL.monoIn fun q h1 h2 => ⟨hs q h1 h2.1, h2.2⟩, hF.monoIn fun q h1 h2 => ⟨hs q h1 h2.1, h2.2⟩⟩
end

theorem rightAt (window wait longest : Int) (w : World) (r : Bool) (hr : r = true ↔ RightS window wait longest) : Calls Try.prog 52 #[.int .i64 window, .int .i64 wait, .int .i64 longest] w (RetW (.bool r) fun w' => w = w') := by
  have HR := Lib.hid hr
  clear hr
  go_enter Try.func52, Try.ntmps52
  go_wp2
  all_goals
    go_ret
    refine ⟨?_, rfl⟩
    have h := HR.out
    clear HR
    unfold RightS at h
    cases r <;> simp at h ⊢ <;> omega

set_option maxHeartbeats 2000000 in
set_option maxRecDepth 100000 in
theorem sameAt {S1 S2 : Nat → Prop} {w : World} (q v : Value) (outs : List (Int × ByteArray)) (bs : List Fl) (hO : OutAt w S1 q outs) (hB : Sl w S2 4 v bs.length (bcells bs)) (he : bs.map (fun f => (f.seq, f.b)) = outs) (hl : outs.length ≤ 100000) :
    Calls Try.prog 60 #[q, v] w (RetW (.bool true) fun w' => Chg NoB w w') := by
  obtain ⟨T1, T2, vs, d1, d2, hOo, hOr⟩ := hO
  obtain ⟨p1, c1, rfl⟩ := hOo.form
  obtain ⟨p2, c2, rfl⟩ := hB.form
  have hlen : bs.length = outs.length := by rw [← he]; simp
  have HOo := Lib.hid hOo
  have HOr := Lib.hid hOr
  have HB := Lib.hid hB
  have HE := Lib.hid he
  have hb : ((outs.length : Int) != (bs.length : Int)) = false := by simp; omega
  have HLEN := Lib.hid hlen
  clear hOo hOr hB he d1 d2 hlen
  go_enter Try.func60, Try.ntmps60
  go_wp2
  go_loopg [13] outs.length (fun m i wr => ∃ k : Nat, k + m = outs.length ∧ i = .int .i64 k ∧ Chg NoB w wr)
  case atStart => exact ⟨0, by omega, rfl, Chg.refl _ _⟩
  case round =>
    obtain ⟨k, hk, rfl, hC⟩ := hrel
    have HK := Lib.hid hk
    have hkl : k ≤ outs.length := by omega
    clear hk
    by_cases hlt : k < outs.length
    · obtain ⟨f, hf⟩ : ∃ f, bs[k]? = some f := ⟨bs[k]'(by have := HLEN.out; omega), List.getElem?_eq_getElem _⟩
      have hp : outs[k]? = some (f.seq, f.b) := by rw [← HE.out, List.getElem?_map, hf]; rfl
      obtain ⟨v, hv, hvs⟩ := HOr.out.2 k f.b (by simp [hp])
      obtain ⟨pv, cv, rfl⟩ := hvs.form
      obtain ⟨g, off, cap, e, -, hgl, -, hcell, -⟩ := HOo.out.spot (by omega)
      cases e
      obtain ⟨a0, a1⟩ := icells_at _ _ k _ _ hp hv
      have k0 := hC.cell (hcell _ _ a0) id
      have k1 := hC.cell (hcell _ _ a1) id
      rw [← Nat.add_assoc] at k1
      obtain ⟨-, p, c, e, -, h2⟩ := HB.out
      cases e
      obtain ⟨g2, o2, rfl, -, hg2, hc2⟩ := h2 (by have := HLEN.out; omega)
      obtain ⟨b0, b1, -, -⟩ := bcells_at _ k f hf
      have m0 := hC.cell (hc2 _ _ b0) id
      have m1 := hC.cell (hc2 _ _ b1) id
      rw [← Nat.add_assoc] at m1
      have hcv : ∀ m, (convert 22 9 (.slice pv f.b.size cv)).run Try.prog (wr.drewN m) = .ok (.string f.b) (wr.drewN m) := fun m => run_text (P := Try.prog) 22 9 5 Try.underlying22 Try.underlying5 Try.underlying9 ((hvs.sl.chg0 hC).chg0 ((Chg.refl NoB wr).drewN m))
      have j0 : (0 : Int) ≤ k := by omega
      have j1 : (k : Int) < outs.length := by omega
      have j2 : (k : Int) < bs.length := by have := HLEN.out; omega
      clear hf hp hv hvs hcell a0 a1 h2 hc2 b0 b1
      go_wp2_with fail
      go_quiet (fail)
      go_wp2_with fail
      go_roundg (outs.length - (k + 1))
      case measure => have := HK.out; omega
      case rel => exact ⟨k + 1, by have := HK.out; omega, by go_num, hC.drewN _⟩
    · obtain rfl : k = outs.length := by omega
      go_wp2
      go_ret
      exact ⟨rfl, hC⟩

theorem BTinfo : (Try.prog.info? 138).map (fun i => (i.zero, i.size, i.bytes)) = some (some (.agg #[.int .u64 0, .string ⟨#[]⟩, .int .i64 0, .int .i64 0]), 4, 40) := by kernel_rfl

set_option maxHeartbeats 2000000 in
set_option maxRecDepth 100000 in
theorem rackedAt {S : Nat → Prop} {w : World} {c : Nat} {window wait longest : Int} {line : List ByteArray} {fl : List Fl} {next : Int} (h : RefS S w c window wait longest line fl next) (hlen : fl.length ≤ 100000) (ack : Int) (fl2 : List Fl) (hf : ackF ack next fl = fl2) :
    Calls Try.prog 62 #[.pointer (some ⟨c, 0, none⟩), .int .u64 ack] w (RetW (.int .i64 ((fl.length : Int) - fl2.length)) fun w' => RefS (Grow S w) w' c window wait longest line fl2 next ∧ Chg S w w') := by
  obtain ⟨i0, hi0, hz0, hz1, hz2⟩ := info_parts BTinfo
  have HH := Lib.hid h
  obtain ⟨lv, fv, h0, hB, hL, hF⟩ := h
  obtain ⟨p2, c2, rfl⟩ := hF.form
  have x4 := hB.cell' (i := 4) (v := .slice p2 fl.length c2) (by rfl)
  have x5 := hB.cell' (i := 5) (v := .int .u64 next) (by rfl)
  have xl := hB.lt
  have HB := Lib.hid hB
  have HL := Lib.hid hL
  have HF := Lib.hid hF
  have HFF := Lib.hid hf
  clear hB hL hF hf
  by_cases hn : next < ack
  · have d : decide (next < ack) = true := by simpa using hn
    have h2f := HFF.out
    unfold ackF at h2f
    rw [if_pos hn] at h2f
    subst h2f
    clear HFF
    go_enter Try.func62, Try.ntmps62
    go_wp2
    go_ret
    have : (fl.length : Int) - fl.length = 0 := by omega
    rw [this]
    exact ⟨rfl, HH.out.bound fun k _ h => .inl h, Chg.refl _ _⟩
  · have d : decide (next < ack) = false := by simpa using hn
    have h2f := HFF.out
    unfold ackF at h2f
    rw [if_neg hn] at h2f
    have HF2 := Lib.hid h2f
    clear h2f hn
    go_enter Try.func62, Try.ntmps62
    go_wp2_with fail
    go_loopg [5, 20] fl.length (fun m o ix wr => ∃ i : Nat, i + m = fl.length ∧ ix = .int .i64 i ∧ Own wr (fun k => w.heap.size ≤ k) 138 4 o ((fl.take i).filter fun f => !decide (f.seq < ack)).length (bcells ((fl.take i).filter fun f => !decide (f.seq < ack))) ∧ Chg NoB w wr)
    case atStart => exact ⟨0, by omega, rfl, Own.nil _ _ _ _, Chg.refl _ _⟩
    case round =>
      obtain ⟨i, hi, rfl, hO, hC⟩ := hrel
      have HI := Lib.hid hi
      have hil : i ≤ fl.length := by omega
      have HO := Lib.hid hO
      clear hi hO
      by_cases hlt : i < fl.length
      · obtain ⟨f, hf⟩ : ∃ f, fl[i]? = some f := ⟨fl[i], by simp [hlt]⟩
        obtain ⟨-, p, c', e, -, h2⟩ := HF.out
        cases e
        obtain ⟨g, off, rfl, -, hg, hc⟩ := h2 (by omega)
        obtain ⟨a0, a1, a2, a3⟩ := bcells_at _ i f hf
        have k0 := hC.cell (hc _ _ a0) id
        have k1 := hC.cell (hc _ _ a1) id
        have k2 := hC.cell (hc _ _ a2) id
        have k3 := hC.cell (hc _ _ a3) id
        rw [← Nat.add_assoc] at k1 k2 k3
        have j0 : (0 : Int) ≤ i := by omega
        have j1 : (i : Int) < fl.length := by omega
        have htk : fl.take (i + 1) = fl.take i ++ [f] := by rw [List.take_add_one, hf]; rfl
        have hfe : ((fl.take (i + 1)).filter fun f => !decide (f.seq < ack)) = ((fl.take i).filter fun f => !decide (f.seq < ack)) ++ if f.seq < ack then [] else [f] := by
          rw [htk, List.filter_append]
          congr 1
          by_cases h : f.seq < ack <;> simp [h]
        have hfl : ((fl.take i).filter fun f => !decide (f.seq < ack)).length ≤ fl.length := by
          have h1 := List.length_filter_le (fun f : Fl => !decide (f.seq < ack)) (fl.take i)
          rw [List.length_take] at h1; omega
        generalize hW : ((fl.take i).filter fun f => !decide (f.seq < ack)) = W at *
        have HFE := Lib.hid hfe
        have A1 := (Chg.refl NoB wr).alloc (.cells #[.int .u64 f.seq, .string f.b, .int .i64 f.due, .int .i64 f.wait] 138)
        have B1 := Blk.new wr #[.int .u64 f.seq, .string f.b, .int .i64 f.due, .int .i64 f.wait] 138
        clear h2 hc a0 a1 a2 a3 htk hfe hW hf
        by_cases hs : f.seq < ack
        · have d1 : decide (ack ≤ f.seq) = false := by simp; omega
          have HS := Lib.hid hs
          clear hs B1
          go_wp2_with fail
          go_roundg (fl.length - (i + 1))
          case measure => have := HI.out; omega
          case rel => exact ⟨i + 1, by have := HI.out; omega, by go_num, by rw [HFE.out, if_pos (by have := HS.out; omega), List.append_nil]; exact HO.out.chg0 A1, hC.step A1⟩
        · have d1 : decide (ack ≤ f.seq) = true := by simp; omega
          have HS := Lib.hid hs
          clear hs
          go_upto_region 8 with fail
          have HO1 := HO.out.chg0 A1
          have hC1 := hC.step A1
          have v0 := B1.cell' (i := 0) (v := .int .u64 f.seq) (by rfl)
          have v1 := B1.cell' (i := 1) (v := .string f.b) (by rfl)
          have v2 := B1.cell' (i := 2) (v := .int .i64 f.due) (by rfl)
          have v3 := B1.cell' (i := 3) (v := .int .i64 f.wait) (by rfl)
          generalize hwa : wr.alloc (.cells #[.int .u64 f.seq, .string f.b, .int .i64 f.due, .int .i64 f.wait] 138) = wa at *
          have A3 := (Chg.refl NoB wa).alloc (.cells #[.int .u64 f.seq, .string f.b, .int .i64 f.due, .int .i64 f.wait] 138)
          have oA := HO1.chg0 A3
          have sA : Sl (wa.alloc (.cells #[.int .u64 f.seq, .string f.b, .int .i64 f.due, .int .i64 f.wait] 138)) _ 4 (.slice (some ⟨wa.heap.size, 0, none⟩) 1 1) 1 [.int .u64 f.seq, .string f.b, .int .i64 f.due, .int .i64 f.wait] := Sl.fresh wa [.int .u64 f.seq, .string f.b, .int .i64 f.due, .int .i64 f.wait] 138 1 rfl
          have one1 : ∀ u ∈ [Value.int .u64 f.seq, .string f.b, .int .i64 f.due, .int .i64 f.wait], u.oneCell' = true := by simp [Value.oneCell']
          have b1 : W.length + 1 ≤ maxLen := by unfold maxLen; omega
          have b2 : (W.length + 1) * 40 ≤ 140737488355328 := by omega
          have hOB := HO.out.ownBlock
          have hz := hC1.size
          clear hwa B1 k0 k1 k2 k3 A1
          go_wp2_with (at_builtin; go_must (refine wpList_app rfl _ _ 91 rfl i0 _ 40 Try.underlying91 hi0 hz0 hz1 hz2 rfl rfl oA _ 1 _ rfl sA one1 b1 b2 ?_))
          intro v8 w8 o8 g8 _
          have C8 : Chg NoB w w8 := (hC1.step A3).grown g8 (fun k hk => .inr (hOB k hk).1)
          have o9 : Own w8 (fun q => w.heap.size ≤ q) 138 4 v8 ((fl.take (i + 1)).filter fun f => !decide (f.seq < ack)).length (bcells ((fl.take (i + 1)).filter fun f => !decide (f.seq < ack))) := by
            rw [HFE.out, if_neg (by have := HS.out; omega), List.length_append, bcells_app]
            exact o8.mono fun q h => h.elim (fun h => (hOB q h).1) (fun h => by omega)
          clear o8 oA sA one1 b1 b2 g8 A3 v0 v1 v2 v3
          go_wp2_with fail
          go_roundg (fl.length - (i + 1))
          case measure => have := HI.out; omega
          case rel => exact ⟨i + 1, by have := HI.out; omega, by go_num, o9, C8⟩
      · obtain rfl : i = fl.length := by have := HI.out; omega
        have hO := HO.out
        rw [List.take_length, HF2.out] at hO
        obtain ⟨p5, c5, rfl⟩ := hO.form
        have HO5 := Lib.hid hO
        have B5 := hC.blk0 HB.out
        have y4 := B5.cell' (i := 4) (v := .slice p2 fl.length c2) (by rfl)
        have yf := B5.frozen 4
        have yl := B5.lt
        have hl2 : fl2.length ≤ fl.length := by rw [← HF2.out]; exact List.length_filter_le _ _
        have HB5 := Lib.hid B5
        clear hO B5
        go_wp2_with fail
        go_ret
        have CS := (Chg.refl (· = c) wr).setCell (a := ⟨c, 4, none⟩) (.inl rfl) (.slice p5 fl2.length c5)
        have hz := hC.size
        refine ⟨rfl, ⟨lv, _, .inl h0, HB5.out.set 4 _, ?_, ?_⟩, (hC.mono (S' := S) fun _ _ h => h.elim).trans CS fun k _ e => e ▸ h0⟩
        · exact ((HL.out.chg0 hC).chg CS fun k hk e => hk.2 e).mono fun k hk => ⟨.inl hk.1, hk.2⟩
        · exact (HO5.out.sl.chg CS fun k hk e => by omega).mono fun k hk => ⟨.inr hk, by omega⟩
end Go.Proofs.Ytokigldggkkbcaa
