/- A flat machine: what is read of it. No condition. A flat machine: an instruction that is not done. No condition. A flat machine: what is spread of an instruction that stores nothing. No condition. -/
import Derived.Test.YtleilfkcjollaaaGreatHg
import Derived.Test.YtleilfkcjollaaaGreatHj
set_option linter.unusedVariables false
set_option linter.unusedSimpArgs false
namespace Go.Proofs.YtleilfkcjollaaaGreat
open Go.RowKit Go.RR
set_option maxHeartbeats 1000000 in
set_option maxRecDepth 100000 in
/-- An address below the shared ones is in no page. -/
theorem which_low {w : World} {L : Pl} {s : Spc} (h : SpAt w L s) (v : Nat) (hv : v < 1073741824) :
    Calls Tryz.prog 65 #[.pointer (some ⟨L.pb, 0, none⟩), .int .u64 v] w (RetW (.tuple #[.int .i64 0, .bool false]) fun w' => w' = w) := by
  have fl := h.blk.lt
  have t1 : decide ((v : Int) < 1073741824) = true := decide_eq_true (by omega)
  clear h hv
  go_enter Tryz.func65, Tryz.ntmps65
  go_wp2_with fail
  go_ret2
  exact ⟨rfl, rfl⟩
set_option maxHeartbeats 1000000 in
set_option maxRecDepth 100000 in
theorem nSpace_at {w : World} {S : Nat → Prop} {nb pb hb cb n me : Nat} (h : NdAt w S nb pb hb cb n me) : Calls Tryz.prog 19 #[.pointer (some ⟨nb, 0, none⟩)] w (RetW (.pointer (some ⟨pb, 0, none⟩)) fun w' => w' = w) := by
  obtain ⟨v, cs, hB, -, -⟩ := h.ex
  have f1 := hB.cell' (i := 1) (v := .pointer (some ⟨pb, 0, none⟩)) rfl
  have fl := hB.lt
  clear hB h
  go_enter Tryz.func19, Tryz.ntmps19
  go_wp2_with fail
  go_ret
  exact ⟨rfl, rfl⟩
set_option maxHeartbeats 1000000 in
set_option maxRecDepth 100000 in
theorem nCore_at {w : World} {S : Nat → Prop} {nb pb hb cb n me : Nat} (h : NdAt w S nb pb hb cb n me) : Calls Tryz.prog 71 #[.pointer (some ⟨nb, 0, none⟩)] w (RetW (.pointer (some ⟨cb, 0, none⟩)) fun w' => w' = w) := by
  obtain ⟨v, cs, hB, -, -⟩ := h.ex
  have f1 := hB.cell' (i := 3) (v := .pointer (some ⟨cb, 0, none⟩)) rfl
  have fl := hB.lt
  clear hB h
  go_enter Tryz.func71, Tryz.ntmps71
  go_wp2_with fail
  go_ret
  exact ⟨rfl, rfl⟩
/-- Parts as cells: cores and spaces. -/
def partC (l : List (Nat × Nat)) : List Value := l.flatMap fun c => [.pointer (some ⟨c.1, 0, none⟩), .pointer (some ⟨c.2, 0, none⟩)]
/-- A flat machine: its parts. -/
structure FmAt (w : World) (S : Nat → Prop) (fm sh : Nat) (l : List (Nat × Nat)) : Prop where
  s : S fm
  ex : ∃ v, Blk w fm #[v, .int .i64 sh] 156 ∧ Sl w S 2 v l.length (partC l)
theorem FmAt.chg {w w' : World} {S S' : Nat → Prop} {fm sh : Nat} {l : List (Nat × Nat)} (h : FmAt w S fm sh l) (c : Chg S' w w') (hs : ∀ k, S k → ¬ S' k) : FmAt w' S fm sh l := by
  obtain ⟨v, h1, h2⟩ := h.ex
  exact ⟨h.s, v, c.blk h1 (hs _ h.s), h2.chg c hs⟩
set_option maxHeartbeats 1000000 in
set_option maxRecDepth 100000 in
theorem fmThere_any {w : World} {S : Nat → Prop} {fm sh : Nat} {l : List (Nat × Nat)} (h : FmAt w S fm sh l) (i : Int) : Calls Tryz.prog 74 #[.pointer (some ⟨fm, 0, none⟩), .int .i64 i] w (RetW (.bool (decide (0 ≤ i) && decide (i < l.length))) fun w' => w' = w) := by
  obtain ⟨v, hB, hS⟩ := h.ex
  obtain ⟨p, c, rfl⟩ := hS.form
  have f0 := hB.cell' (i := 0) (v := .slice p l.length c) rfl
  have fl := hB.lt
  obtain ⟨b1, h1⟩ : ∃ b, decide (0 ≤ i) = b := ⟨_, rfl⟩
  obtain ⟨b2, h2⟩ : ∃ b, decide (i < (l.length : Int)) = b := ⟨_, rfl⟩
  have HV : Hid ((decide (0 ≤ i) && decide (i < (l.length : Int))) = (b1 && b2)) := Lib.hid (by rw [h1, h2])
  rw [HV.out]
  clear hB hS h HV
  cases b1 <;>
  · go_enter Tryz.func74, Tryz.ntmps74
    go_wp2_with fail
    go_ret
    exact ⟨by first | rfl | (simp [h2]), rfl⟩
theorem partC_get : ∀ (l : List (Nat × Nat)) (q : Nat) (c : Nat × Nat), l[q]? = some c → (partC l)[q * 2]? = some (.pointer (some ⟨c.1, 0, none⟩)) ∧ (partC l)[q * 2 + 1]? = some (.pointer (some ⟨c.2, 0, none⟩))
  | [], q, c, h => by simp at h
  | x :: m, 0, c, h => by
    simp only [List.getElem?_cons_zero, Option.some.injEq] at h
    subst h
    exact ⟨rfl, rfl⟩
  | x :: m, q + 1, c, h => by
    rw [List.getElem?_cons_succ] at h
    have ih := partC_get m q c h
    unfold partC at ih ⊢
    rw [List.flatMap_cons, List.getElem?_append_right (by show 2 ≤ _; omega), List.getElem?_append_right (by show 2 ≤ _; omega)]
    show (m.flatMap fun c => [Value.pointer (some ⟨c.1, 0, none⟩), .pointer (some ⟨c.2, 0, none⟩)])[(q + 1) * 2 - 2]? = _ ∧ (m.flatMap fun c => [Value.pointer (some ⟨c.1, 0, none⟩), .pointer (some ⟨c.2, 0, none⟩)])[(q + 1) * 2 + 1 - 2]? = _
    rw [show (q + 1) * 2 - 2 = q * 2 by omega, show (q + 1) * 2 + 1 - 2 = q * 2 + 1 by omega]
    exact ih
/-- A part's cells, where the machine's slice says. -/
theorem FmAt.part {w : World} {S : Nat → Prop} {fm sh : Nat} {l : List (Nat × Nat)} (h : FmAt w S fm sh l) {i : Nat} {c : Nat × Nat} (hc : l[i]? = some c) :
    ∃ g off cap, Blk w fm #[.slice (some ⟨g, off, none⟩) l.length cap, .int .i64 sh] 156 ∧ S g ∧ g < w.heap.size ∧ w.cell? ⟨g, off + i * 2, none⟩ = some (.pointer (some ⟨c.1, 0, none⟩)) ∧ w.cell? ⟨g, off + i * 2 + 1, none⟩ = some (.pointer (some ⟨c.2, 0, none⟩)) := by
  obtain ⟨v, hB, -, p, cap, rfl, hn, hr⟩ := h.ex
  have hi := (List.getElem?_eq_some_iff.1 hc).1
  obtain ⟨g, off, rfl, hg, hgl, hcell⟩ := hr (by omega)
  have := partC_get l i c hc
  exact ⟨g, off, cap, hB, hg, hgl, hcell _ _ this.1, by have h2 := hcell _ _ this.2; rwa [show off + (i * 2 + 1) = off + i * 2 + 1 by omega] at h2⟩
set_option maxHeartbeats 1000000 in
set_option maxRecDepth 100000 in
theorem fmCore_any {w : World} {S : Nat → Prop} {fm sh : Nat} {l : List (Nat × Nat)} (h : FmAt w S fm sh l) {i : Nat} {c : Nat × Nat} (hc : l[i]? = some c) : Calls Tryz.prog 40 #[.pointer (some ⟨fm, 0, none⟩), .int .i64 i] w (RetW (.pointer (some ⟨c.1, 0, none⟩)) fun w' => w' = w) := by
  obtain ⟨g, off, cap, hB, hg, hgl, h0, h1⟩ := h.part hc
  have hi := (List.getElem?_eq_some_iff.1 hc).1
  have HT := Lib.hid (fmThere_any h i)
  rw [decide_eq_true (by omega : (0 : Int) ≤ (i : Int)), decide_eq_true (by omega : (i : Int) < (l.length : Int))] at HT
  have f0 := hB.cell' (i := 0) (v := .slice (some ⟨g, off, none⟩) l.length cap) rfl
  have fl := hB.lt
  clear hB h hc
  go_enter Tryz.func40, Tryz.ntmps40
  go_wp2_with fail
  refine HT.out.mono ?_
  rintro e w1 ⟨rfl, rfl⟩
  go_wp2_with fail
  go_ret
  exact ⟨rfl, rfl⟩
end Go.Proofs.YtleilfkcjollaaaGreat
set_option linter.unusedVariables false
set_option linter.unusedSimpArgs false
namespace Go.Proofs.YtleilfkcjollaaaGreat
open Go.RowKit Go.RR
set_option maxHeartbeats 1000000 in
set_option maxRecDepth 100000 in
theorem fDo_absent {w : World} {S : Nat → Prop} {fm sh : Nat} {l : List (Nat × Nat)} (h : FmAt w S fm sh l) (i : Int) (hi : i < 0 ∨ (l.length : Int) ≤ i) (pick : Int) : Calls Tryz.prog 72 #[.pointer (some ⟨fm, 0, none⟩), .int .i64 i, .int .i64 pick] w (RetW (.tuple #[.agg #[.bool false, .int .i64 0, .int .i64 0, .int .i64 0, .int .i64 0, .int .i64 0, .int .u64 0, .int .i64 0, .int .i64 0, .int .u64 0, .int .i64 0, .int .u64 0, .int .u64 0], .bool false]) fun w' => Chg NoB w w') := by
  have c0 := (Chg.refl NoB w).alloc (.cells #[.bool false, .int .i64 0, .int .i64 0, .int .i64 0, .int .i64 0, .int .i64 0, .int .u64 0, .int .i64 0, .int .i64 0, .int .u64 0, .int .i64 0, .int .u64 0, .int .u64 0] 84)
  have HT := Lib.hid (fmThere_any (h.chg c0 fun _ _ => id) i)
  have e : (decide (0 ≤ i) && decide (i < (l.length : Int))) = false := by
    rcases hi with hi | hi
    · rw [decide_eq_false (by omega : ¬ (0 : Int) ≤ i)]; rfl
    · rw [decide_eq_false (by omega : ¬ i < (l.length : Int)), Bool.and_false]
  rw [e] at HT
  have HC := Lib.hid c0
  clear h hi e c0
  go_enter Tryz.func72, Tryz.ntmps72
  go_wp2_with fail
  refine HT.out.mono ?_
  rintro e w1 ⟨rfl, hw⟩
  subst hw
  go_wp2_with fail
  exact bodyPost_ret (v := .tuple #[.agg #[.bool false, .int .i64 0, .int .i64 0, .int .i64 0, .int .i64 0, .int .i64 0, .int .u64 0, .int .i64 0, .int .i64 0, .int .u64 0, .int .i64 0, .int .u64 0, .int .u64 0], .bool false]) (by simp [results, Tryz.results72, go_sem]) rfl ⟨rfl, HC.out⟩
set_option maxHeartbeats 1000000 in
set_option maxRecDepth 100000 in
theorem cRun_at {w : World} {cb : Nat} {c : Cor} (h : CoreAt w cb c) : Calls Tryz.prog 73 #[.pointer (some ⟨cb, 0, none⟩)] w (RetW (.int .i64 c.run) fun w' => w' = w) := by
  have f0 := h.blk.cell' (i := 17) (v := .int .i64 c.run) rfl
  have fl := h.blk.lt
  clear h
  go_enter Tryz.func73, Tryz.ntmps73
  go_wp2_with fail
  go_ret
  exact ⟨rfl, rfl⟩
set_option maxHeartbeats 1000000 in
set_option maxRecDepth 100000 in
theorem fDo_stopped {w : World} {S : Nat → Prop} {fm sh : Nat} {l : List (Nat × Nat)} (h : FmAt w S fm sh l) {i : Nat} {q : Nat × Nat} (hq : l[i]? = some q) {c : Cor} (hc : CoreAt w q.1 c) (hr : c.run ≠ 0) (pick : Int) : Calls Tryz.prog 72 #[.pointer (some ⟨fm, 0, none⟩), .int .i64 i, .int .i64 pick] w (RetW (.tuple #[.agg #[.bool false, .int .i64 0, .int .i64 0, .int .i64 0, .int .i64 0, .int .i64 0, .int .u64 0, .int .i64 0, .int .i64 0, .int .u64 0, .int .i64 0, .int .u64 0, .int .u64 0], .bool false]) fun w' => Chg NoB w w') := by
  have c0 := (Chg.refl NoB w).alloc (.cells #[.bool false, .int .i64 0, .int .i64 0, .int .i64 0, .int .i64 0, .int .i64 0, .int .u64 0, .int .i64 0, .int .i64 0, .int .u64 0, .int .i64 0, .int .u64 0, .int .u64 0] 84)
  have hi := (List.getElem?_eq_some_iff.1 hq).1
  have HT := Lib.hid (fmThere_any (h.chg c0 fun _ _ => id) i)
  rw [decide_eq_true (by omega : (0 : Int) ≤ (i : Int)), decide_eq_true (by omega : (i : Int) < (l.length : Int))] at HT
  have HR := Lib.hid (cRun_at (hc.chg c0 id))
  obtain ⟨g, off, cap, hB, hg, hgl, h0, h1⟩ := (h.chg c0 fun _ _ => id).part hq
  have f0 := hB.cell' (i := 0) (v := .slice (some ⟨g, off, none⟩) l.length cap) rfl
  have fl := hB.lt
  have t1 : (c.run != 0) = true := by simpa using hr
  have t2 : decide (c.run = 0) = false := decide_eq_false hr
  have HC := Lib.hid c0
  clear h hq hB hg hr hc c0
  go_enter Tryz.func72, Tryz.ntmps72
  go_wp2_with fail
  refine HT.out.mono ?_
  rintro e w1 ⟨rfl, hw⟩
  subst hw
  go_wp2_with fail
  refine HR.out.mono ?_
  rintro e w1 ⟨rfl, hw⟩
  subst hw
  go_wp2_with fail
  exact bodyPost_ret (v := .tuple #[.agg #[.bool false, .int .i64 0, .int .i64 0, .int .i64 0, .int .i64 0, .int .i64 0, .int .u64 0, .int .i64 0, .int .i64 0, .int .u64 0, .int .i64 0, .int .u64 0, .int .u64 0], .bool false]) (by simp [results, Tryz.results72, go_sem]) rfl ⟨rfl, HC.out⟩
end Go.Proofs.YtleilfkcjollaaaGreat
set_option linter.unusedVariables false
set_option linter.unusedSimpArgs false
namespace Go.Proofs.YtleilfkcjollaaaGreat
open Go.RowKit Go.RR
set_option maxHeartbeats 2000000 in
set_option maxRecDepth 100000 in
theorem spread_low {w : World} {S : Nat → Prop} {fm sh : Nat} {l : List (Nat × Nat)} (h : FmAt w S fm sh l) (hl : l.length ≤ 1000) (hsp : ∀ (j : Nat) (q : Nat × Nat), l[j]? = some q → ∃ L s, q.2 = Pl.pb L ∧ SpAt w L s) (done : Bool) (op rd rs rt im cause access size : Int) (pc addr old new : Nat) (ha : addr < 1073741824) :
    Calls Tryz.prog 112 #[.pointer (some ⟨fm, 0, none⟩), .agg #[.bool done, .int .i64 op, .int .i64 rd, .int .i64 rs, .int .i64 rt, .int .i64 im, .int .u64 pc, .int .i64 cause, .int .i64 access, .int .u64 addr, .int .i64 size, .int .u64 old, .int .u64 new]] w (RetW (.tuple #[]) fun w' => Chg NoB w w') := by
  have c0 := (Chg.refl NoB w).alloc (.cells #[.bool done, .int .i64 op, .int .i64 rd, .int .i64 rs, .int .i64 rt, .int .i64 im, .int .u64 pc, .int .i64 cause, .int .i64 access, .int .u64 addr, .int .i64 size, .int .u64 old, .int .u64 new] 84)
  have hD := Blk.new w #[.bool done, .int .i64 op, .int .i64 rd, .int .i64 rs, .int .i64 rt, .int .i64 im, .int .u64 pc, .int .i64 cause, .int .i64 access, .int .u64 addr, .int .i64 size, .int .u64 old, .int .u64 new] 84
  obtain ⟨v, hB, hS⟩ := h.ex
  obtain ⟨vp, vc, rfl⟩ := hS.form
  have f0 := (hB.alloc (.cells #[.bool done, .int .i64 op, .int .i64 rd, .int .i64 rs, .int .i64 rt, .int .i64 im, .int .u64 pc, .int .i64 cause, .int .i64 access, .int .u64 addr, .int .i64 size, .int .u64 old, .int .u64 new] 84)).cell' (i := 0) (v := .slice vp l.length vc) rfl
  have fl := (hB.alloc (.cells #[.bool done, .int .i64 op, .int .i64 rd, .int .i64 rs, .int .i64 rt, .int .i64 im, .int .u64 pc, .int .i64 cause, .int .i64 access, .int .u64 addr, .int .i64 size, .int .u64 old, .int .u64 new] 84)).lt
  have H := Lib.hid h
  have HSP := Lib.hid hsp
  have HA := Lib.hid ha
  have g := hD.ever
  have gl := hD.everL
  have HC := Lib.hid c0
  clear h hsp ha hD hB hS c0
  go_enter Tryz.func112, Tryz.ntmps112
  go_wp2_with fail
  generalize w.alloc (.cells #[.bool done, .int .i64 op, .int .i64 rd, .int .i64 rs, .int .i64 rt, .int .i64 im, .int .u64 pc, .int .i64 cause, .int .i64 access, .int .u64 addr, .int .i64 size, .int .u64 old, .int .u64 new] 84) = w0 at *
  go_loopg [13] l.length (fun k iv wr => ∃ i : Nat, iv = .int .i64 i ∧ i ≤ l.length ∧ k = l.length - i ∧ Chg NoB w0 wr)
  case atStart => exact ⟨0, rfl, by omega, by omega, Chg.refl _ _⟩
  case round =>
    obtain ⟨i, rfl, hin, hk, hC⟩ := hrel
    have HK := Lib.hid hk
    clear hk
    by_cases hi : i < l.length
    · have t1 : decide ((i : Int) < l.length) = true := decide_eq_true (by omega)
      have t2 : decide (i < l.length) = true := decide_eq_true hi
      obtain ⟨q, hq⟩ : ∃ q, l[i]? = some q := ⟨l[i]'hi, List.getElem?_eq_getElem _⟩
      obtain ⟨L, s, hqL, hSp⟩ := HSP.out i q hq
      obtain ⟨g2, off, cap, hB, hg, hgl, h0, h1⟩ := (H.out.chg (HC.out.step hC) fun _ _ => id).part hq
      have ev := Option.some.inj ((hC.cell f0 id).symm.trans (hB.cell' (i := 0) (v := .slice (some ⟨g2, off, none⟩) l.length cap) rfl))
      injection ev with e1 e2 e3
      subst e1 e3
      rw [hqL] at h1
      have HW := Lib.hid (which_low (hSp.chg0 ((HC.out.step hC).alloc (.cells #[.pointer (some ⟨q.1, 0, none⟩), .pointer (some ⟨L.pb, 0, none⟩)] 159))) addr HA.out)
      have gg := g _ hC
      have ggl := gl _ hC
      have HCr := Lib.hid (hC.alloc (.cells #[.pointer (some ⟨q.1, 0, none⟩), .pointer (some ⟨L.pb, 0, none⟩)] 159))
      clear hB hg hq hqL hSp
      go_wp2_with fail
      refine HW.out.mono ?_
      rintro e w9 ⟨rfl, hw⟩
      subst hw
      go_wp2_with fail
      go_roundg (l.length - (i + 1))
      case rel => exact ⟨i + 1, by go_num, by omega, rfl, HCr.out⟩
      case measure => rw [HK.out]; omega
    · have t1 : decide ((i : Int) < l.length) = false := decide_eq_false (by omega)
      have t2 : decide (i < l.length) = false := decide_eq_false hi
      have HF := Lib.hid (HC.out.step hC)
      clear hC
      go_wp2_with fail
      refine bodyPost_end (results_none rfl _ _ _) rfl ?_
      exact ⟨rfl, HF.out⟩
end Go.Proofs.YtleilfkcjollaaaGreat
