/- A flat machine: what runs, a page; what the law asks first. No condition. Flat machines: what the law asks first; the law. No condition. Flat machines: how far facts replay. No condition. -/
import Derived.Test.YtleilfkcjollaaaGreatHq
import Derived.Test.YtleilfkcjollaaaGreatHu
import Derived.Test.YtleilfkcjollaaaGreatHe
import Derived.Test.YtleilfkcjollaaaGreatHk
set_option linter.unusedVariables false
set_option linter.unusedSimpArgs false
namespace Go.Proofs.YtleilfkcjollaaaGreat
open Go.RowKit Go.RR
set_option maxHeartbeats 1000000 in
set_option maxRecDepth 100000 in
/-- None runs. -/
theorem fRunning_none {w : World} {S : Nat → Prop} {fm sh : Nat} {l : List (Nat × Nat)} (h : FmAt w S fm sh l) (hl : l.length ≤ 1000) {L : Nat → Pl} {s : Nat → Spc} {c : Nat → Cor} (hP : Parts w l L s c) (hr : ∀ j, j < l.length → (c j).run ≠ 0) :
    Calls Tryz.prog 39 #[.pointer (some ⟨fm, 0, none⟩)] w (RetW (.int .i64 0) fun w' => Chg NoB w w') := by
  obtain ⟨v, hB, hS⟩ := h.ex
  obtain ⟨vp, vc, rfl⟩ := hS.form
  have f0 := hB.cell' (i := 0) (v := .slice vp l.length vc) rfl
  have fl := hB.lt
  have H := Lib.hid h
  have HP := Lib.hid hP
  have HR := Lib.hid hr
  clear h hP hr hB hS
  go_enter Tryz.func39, Tryz.ntmps39
  go_wp2_with fail
  go_loopg [13, 3] l.length (fun k iv nv wr => ∃ i : Nat, iv = .int .i64 i ∧ nv = .int .i64 0 ∧ i ≤ l.length ∧ k = l.length - i ∧ Chg NoB w wr)
  case atStart => exact ⟨0, rfl, rfl, by omega, by omega, Chg.refl _ _⟩
  case round =>
    obtain ⟨i, rfl, rfl, hin, hk, hC⟩ := hrel
    have HK := Lib.hid hk
    clear hk
    by_cases hi : i < l.length
    · have t1 : decide ((i : Int) < l.length) = true := decide_eq_true (by omega)
      have t2 : decide (i < l.length) = true := decide_eq_true hi
      obtain ⟨q, hq⟩ : ∃ q, l[i]? = some q := ⟨l[i]'hi, List.getElem?_eq_getElem _⟩
      obtain ⟨g2, off, cap, hB, hg, hgl, h0, h1⟩ := (H.out.chg hC fun _ _ => id).part hq
      have ev := Option.some.inj ((hC.cell f0 id).symm.trans (hB.cell' (i := 0) (v := .slice (some ⟨g2, off, none⟩) l.length cap) rfl))
      injection ev with e1 e2 e3
      subst e1 e3
      have hCo := (HP.out.mc i q hq).2.co.chg ((hC.alloc (.cells #[.pointer (some ⟨q.1, 0, none⟩), .pointer (some ⟨q.2, 0, none⟩)] 159))) id
      have HR1 := Lib.hid (cRun_at hCo)
      have r1 : ((c i).run == 0) = false := by simpa using HR.out i hi
      have r2 : decide ((c i).run = 0) = false := decide_eq_false (HR.out i hi)
      have HCr := Lib.hid (hC.alloc (.cells #[.pointer (some ⟨q.1, 0, none⟩), .pointer (some ⟨q.2, 0, none⟩)] 159))
      clear hB hg hq hC hCo
      go_wp2_with fail
      refine HR1.out.mono ?_
      rintro e w9 ⟨rfl, hw⟩
      subst hw
      go_wp2_with fail
      go_roundg (l.length - (i + 1))
      case rel => exact ⟨i + 1, by go_num, rfl, by omega, rfl, HCr.out⟩
      case measure => rw [HK.out]; omega
    · have t1 : decide ((i : Int) < l.length) = false := decide_eq_false (by omega)
      have t2 : decide (i < l.length) = false := decide_eq_false hi
      have HF := Lib.hid hC
      clear hC
      go_wp2_with fail
      go_ret
      exact ⟨rfl, HF.out⟩
set_option maxHeartbeats 1000000 in
set_option maxRecDepth 100000 in
theorem fPage_any {w : World} {S : Nat → Prop} {fm : Nat} {l : List (Nat × Nat)} (h : FmAt w S fm 1 l) {L : Nat → Pl} {s : Nat → Spc} {c : Nat → Cor} (hP : Parts w l L s c) {q : Nat × Nat} (hq : l[0]? = some q) (hsh : 0 < (s 0).shape.shared) (hfr : ∀ f, frameOf (s 0) 0 = some f → f < (s 0).u.fr) :
    Calls Tryz.prog 38 #[.pointer (some ⟨fm, 0, none⟩), .int .i64 0] w (RetV fun v w' => Own w' (fun k => w.heap.size ≤ k) 5 1 v 4096 (bcells (dataF (s 0) 0) 4096) ∧ Chg NoB w w') := by
  obtain ⟨g2, off, cap, hB, hg, hgl, h0, h1⟩ := h.part hq
  have f0 := hB.cell' (i := 0) (v := .slice (some ⟨g2, off, none⟩) l.length cap) rfl
  have f1 := hB.cell' (i := 1) (v := .int .i64 (1 : Nat)) rfl
  have fl := hB.lt
  have hl := (List.getElem?_eq_some_iff.1 hq).1
  obtain ⟨hqb, hM⟩ := hP.mc 0 q hq
  rw [Nat.zero_mul, Nat.add_zero, hqb] at h1
  have HD := Lib.hid (data_any hM.sp 0 (by omega) hsh hfr)
  have t1 : decide ((0 : Int) < l.length) = true := decide_eq_true (by omega)
  have t2 : decide (0 < l.length) = true := decide_eq_true hl
  clear hB hg hM hP h hqb hsh hfr hq
  go_enter Tryz.func38, Tryz.ntmps38
  go_wp2_with fail
  refine HD.out.mono ?_
  rintro e w1 ⟨v, rfl, hO, hC⟩
  have HO := Lib.hid (And.intro hO hC)
  obtain ⟨p, cc, rfl⟩ := hO.form
  clear hO hC
  go_wp2_with fail
  go_ret
  exact ⟨_, rfl, HO.out⟩
end Go.Proofs.YtleilfkcjollaaaGreat
set_option linter.unusedVariables false
set_option linter.unusedSimpArgs false
namespace Go.Proofs.YtleilfkcjollaaaGreat
open Go.RowKit Go.RR
theorem FmAt.bound {w : World} {S : Nat → Prop} {fm sh : Nat} {l : List (Nat × Nat)} (h : FmAt w S fm sh l) : FmAt w (fun k => S k ∧ k < w.heap.size) fm sh l := by
  obtain ⟨v, hB, hS⟩ := h.ex
  exact ⟨⟨h.s, hB.lt⟩, v, hB, hS.monoIn fun k hk hs => ⟨hs, hk⟩⟩
def qA : List In := preI ++ addsI
theorem qA_eq : progL (preI ++ addsI) = qA := by kernel_rfl
theorem qA_right : ∀ i ∈ qA, rightB i = true := by decide
def odA : List Int := [0, 1, 1, 0, 0, 1, 0, 1, 0, 1, 0, 2, -1]
theorem play_ck : (match playF qA odA (fun _ => Cor.new 65536) 0 0 with
    | some (c, v, n) => decide (v = 2 ∧ n = 10 ∧ (c 0).run ≠ 0 ∧ (c 1).run ≠ 0 ∧ (c 0).r 3 = 0 ∧ (c 1).r 3 = 1)
    | none => false) = true := by kernel_rfl
theorem play_eq : ∃ c : Nat → Cor, playF qA odA (fun _ => Cor.new 65536) 0 0 = some (c, 2, 10) ∧ (∀ j, j < 2 → (c j).run ≠ 0) ∧ (c 0).r 3 = 0 ∧ (c 1).r 3 = 1 := by
  have h := play_ck
  cases e : playF qA odA (fun _ => Cor.new 65536) 0 0 with
  | none => rw [e] at h; cases h
  | some x =>
    rw [e] at h
    obtain ⟨c, v, n⟩ := x
    have h := of_decide_eq_true h
    obtain ⟨rfl, rfl, h0, h1, h2, h3⟩ := h
    refine ⟨c, rfl, fun j hj => ?_, h2, h3⟩
    rcases (by omega : j = 0 ∨ j = 1) with rfl | rfl
    · exact h0
    · exact h1
def factsA : List FactP := [⟨0, 0, 0, ⟨true, ⟨0, 0, 0, 0, 0⟩, 0, 0, 2, 8, 4, 0, 7⟩⟩, ⟨0, 0, 0, ⟨true, ⟨0, 0, 0, 0, 0⟩, 0, 0, 1, 8, 2, 7, 0⟩⟩, ⟨0, 0, 0, ⟨true, ⟨0, 0, 0, 0, 0⟩, 0, 0, 1, 9, 1, 7, 0⟩⟩]
theorem facts_eq : replayF (fun _ => 0) factsA 0 = (2, false) := by kernel_rfl
theorem facts_ok : ∀ f ∈ factsA, f.Ok := by
  intro f hf
  simp only [factsA, List.mem_cons, List.not_mem_nil, or_false] at hf
  rcases hf with rfl | rfl | rfl <;> exact ⟨by decide, by decide, by decide⟩
theorem FS.byte {s : Spc} {q : List In} {v : Nat} (h : FS s q v) (hb : ByOk s.u.b) : dataF s 0 0 = v % 256 := by
  obtain ⟨m, hm, h0⟩ := h.mem
  have := mem_byte hm hb (k := 0) (by omega)
  rw [h0] at this
  exact this
theorem FS.fr {s : Spc} {q : List In} {v : Nat} (h : FS s q v) : ∀ f, frameOf s 0 = some f → f < s.u.fr := by
  obtain ⟨t1, t0, hI⟩ := h.inv
  exact fun f hf => frame_in hI hf
set_option maxHeartbeats 4000000 in
set_option maxRecDepth 100000 in
theorem first27_any (w : World) : Calls Tryz.prog 13 #[] w (RetW (.bool true) fun w' => Chg NoB w w') := by
  have HP := Lib.hid fun w1 S v h => program_any (w := w1) addsI S v h (by decide)
  rw [qA_eq] at HP
  have HN := Lib.hid fun w1 pv Sp h1 h2 cg co cc h3 h4 => fNew_any (w := w1) qA qA_right (by decide) pv Sp h1 h2 cg co cc h3 h4
  have HU := Lib.hid fun w1 => usual_any 2 1 w1
  obtain ⟨cF, hPl, hRun, hr0, hr1⟩ := play_eq
  have HPl := Lib.hid hPl
  have HRun := Lib.hid (And.intro hRun (And.intro hr0 hr1))
  have HFa := Lib.hid facts_eq
  have sI := Lib.hid (Sl.fresh (size := 5) w (icells addsI) 73 3 rfl)
  have c1 := Lib.hid ((Chg.refl NoB w).alloc (.cells (icells addsI).toArray 73))
  clear hPl hRun hr0 hr1
  go_enter Tryz.func13, Tryz.ntmps13
  go_wp2_with fail
  refine (HP.out _ _ _ sI.out).mono ?_
  rintro e w1 ⟨pv, rfl, hO, hC1⟩
  have HC1 := Lib.hid (c1.out.step hC1)
  have HPV := Lib.hid hO.sl
  obtain ⟨pp, pc, hpf⟩ := hO.form
  subst hpf
  generalize hml : (progB qA).length = ml at *
  have HML := Lib.hid hml
  clear hO hC1 sI HP c1 hml
  go_wp2_with fail
  refine (HU.out _).mono ?_
  rintro e w2 ⟨rfl, hC2⟩
  have HC2 := Lib.hid (HC1.out.step hC2)
  have hB3 := Blk.new w2 #[.slice pp ml pc, .slice pp ml pc] 48
  have c3 := Lib.hid ((Chg.refl NoB w2).alloc (.cells #[.slice pp ml pc, .slice pp ml pc] 48))
  have hpv3 := HPV.out.chg0 (hC2.step c3.out)
  have HN3 := Lib.hid (HN.out _ (.slice pp ml pc) (fun k => (w.alloc (.cells (icells addsI).toArray 73)).heap.size ≤ k ∧ k < w1.heap.size) (by
      exact (HPV.out.monoIn (S' := fun k => (w.alloc (.cells (icells addsI).toArray 73)).heap.size ≤ k ∧ k < w1.heap.size) fun k h1 h2 => ⟨h2, h1⟩).chg0 (hC2.step c3.out)) (fun k hk => Nat.lt_of_lt_of_le hk.2 (hC2.step c3.out).size) w2.heap.size 0 2 (hB3.cell' (i := 0) rfl) (hB3.cell' (i := 1) rfl))
  have HC3 := Lib.hid (HC2.out.step c3.out)
  clear hpv3 hC2 HPV
  go_wp2_with fail
  refine HN3.out.mono ?_
  rintro e w3 ⟨v3, rfl, fm, l, L, S, rfl, hll, hFm, hPs, hSd, hlo, hC4⟩
  have hC4' := HC3.out.step hC4
  have hFb := hFm.bound
  obtain ⟨cQ, hQ⟩ : ∃ x, w3.alloc (.cells (odA.map fun i => Value.int .i64 i).toArray 3) = x := ⟨_, rfl⟩
  have c5 : Chg NoB w3 cQ := hQ ▸ (Chg.refl NoB w3).alloc _
  have hQv : Sl cQ (fun k => k = w3.heap.size) 1 (.slice (some ⟨w3.heap.size, 0, none⟩) 13 13) odA.length (odA.map fun i => Value.int .i64 i) := hQ ▸ Sl.fresh (size := 1) w3 (odA.map fun i => Value.int .i64 i) 3 13 rfl
  have HPy := Lib.hid (fPlay_any (hFb.chg c5 fun _ _ => id) hll (hPs.chg0 c5) (fun k hk => ⟨Nat.lt_of_lt_of_le hk.2 c5.size, hSd k hk.1⟩) qA_right (fun j _ => (fs_made qA_right (by decide)).2) odA _ hQv (by decide) (fun k (hk : k = w3.heap.size) => ⟨by rw [hk, ← hQ]; simp, fun e => by have := hPs.lt k e; omega⟩) _ HPl.out)
  have HFm := Lib.hid (hFb.chg c5 fun _ _ => id)
  have HSd : Hid (∀ k, (S k ∧ k < w3.heap.size) → ¬ InP l L k) := Lib.hid fun k hk => hSd k hk.1
  have HLo := Lib.hid hlo
  have HLL := Lib.hid hll
  have HC5 := Lib.hid (hC4'.step c5)
  have HZ := Lib.hid (And.intro HC3.out.size (And.intro hC4.size c5.size))
  have hQ : w3.alloc (.cells #[.int .i64 0, .int .i64 1, .int .i64 1, .int .i64 0, .int .i64 0, .int .i64 1, .int .i64 0, .int .i64 1, .int .i64 0, .int .i64 1, .int .i64 0, .int .i64 2, .int .i64 (-1)] 3) = cQ := hQ
  clear hFb hFm hPs hSd hlo hC4 hC4' hll c5 hQv HN3 HN HU HPl
  go_wp2_with fail
  refine HPy.out.mono ?_
  rintro e w6 ⟨rfl, L6, s6, hP6, hF6, hE6, hC6⟩
  have hFm6 := HFm.out.chg hC6 fun k hk => HSd.out k hk
  have hC06 : Chg NoB w w6 := HC5.out.trans hC6 fun k hk e => by
    have := HLo.out k (.inr e)
    have := HZ.out
    omega
  have HFm6 := Lib.hid hFm6
  have HP6 := Lib.hid hP6
  have HF6 := Lib.hid hF6
  have HC06 := Lib.hid hC06
  have t10 : ((10 : Nat) : Int) = 10 := rfl
  clear hP6 hF6 hE6 hC6 hFm6 hC06 HPy HFm HSd hQ
  have hFS := Sl.fresh (size := 16) w6 (fcells factsA) 86 3 rfl
  have c6 := Lib.hid ((Chg.refl NoB w6).alloc (.cells (fcells factsA).toArray 86))
  have HRp := Lib.hid (replay_any factsA _ _ hFS (by decide) facts_ok)
  rw [HFa.out] at HRp
  clear hFS HFa
  go_wp2_with fail
  refine HRp.out.mono ?_
  rintro e w7 ⟨rfl, hC7⟩
  have t2 : ((2 : Nat) : Int) = 2 := rfl
  have k7 := c6.out.step hC7
  have HC07 := Lib.hid (HC06.out.step k7)
  have HFm7 := Lib.hid (HFm6.out.chg k7 fun _ _ => id)
  have HP7 := Lib.hid (HP6.out.chg0 k7)
  obtain ⟨q0, hq0⟩ : ∃ a, l[0]? = some a := ⟨l[0]'(by have := HLL.out; omega), List.getElem?_eq_getElem _⟩
  obtain ⟨q1, hq1⟩ : ∃ a, l[1]? = some a := ⟨l[1]'(by have := HLL.out; omega), List.getElem?_eq_getElem _⟩
  have hM0 := (HP7.out.mc 0 q0 hq0).2
  have hM1 := (HP7.out.mc 1 q1 hq1).2
  have HPg := Lib.hid (fPage_any HFm7.out HP7.out hq0 (HF6.out 0 (by omega)).shp.1 (HF6.out 0 (by omega)).fr)
  have hby := (HF6.out 0 (by omega)).byte hM0.sp.mu.mem.ok
  have HBY := Lib.hid hby
  clear hC7 c6 k7 HRp HC06 HFm6 HP6 hby
  go_wp2_with fail
  refine HPg.out.mono ?_
  rintro e w8 ⟨v8, rfl, hO8, hC8⟩
  obtain ⟨-, p8, cap8, rfl, -, hcell8⟩ := hO8.sl
  obtain ⟨g8, off8, rfl, -, hgl8, hc8⟩ := hcell8 (by omega)
  have b8 := hc8 0 (.int .u8 2) (by
    rw [bcells_get (by omega : 0 < 4096), HBY.out]
    rfl)
  rw [Nat.add_zero] at b8
  have HR8 := Lib.hid (fRunning_none (HFm7.out.chg hC8 fun _ _ => id) (by have := HLL.out; omega) (HP7.out.chg0 hC8) (fun j hj => HRun.out.1 j (by have := HLL.out; omega)))
  have HC8 := Lib.hid hC8
  have HM0 := Lib.hid hM0
  have HM1 := Lib.hid hM1
  have HQ0 := Lib.hid hq0
  have HQ1 := Lib.hid hq1
  clear hO8 hC8 hcell8 hc8 hM0 hM1 hq0 hq1 HPg
  go_wp2_with fail
  refine HR8.out.mono ?_
  rintro e w9 ⟨rfl, hC9⟩
  have HC9 := Lib.hid (HC8.out.step hC9)
  have HK0 := Lib.hid (fmCore_any (HFm7.out.chg HC9.out fun _ _ => id) HQ0.out)
  have HK1 := Lib.hid (fmCore_any (HFm7.out.chg HC9.out fun _ _ => id) HQ1.out)
  have HG0 : Hid (Calls Tryz.prog 41 #[.pointer (some ⟨q0.1, 0, none⟩), .int .i64 3] w9 (RetW (.int .u64 0) fun w' => w' = w9)) := Lib.hid (by
    have := coreReg_any (HM0.out.co.chg HC9.out id) 3
    rw [if_pos (by decide), show (3 : Int).toNat = 3 from rfl, HRun.out.2.1] at this
    exact this)
  have HG1 : Hid (Calls Tryz.prog 41 #[.pointer (some ⟨q1.1, 0, none⟩), .int .i64 3] w9 (RetW (.int .u64 1) fun w' => w' = w9)) := Lib.hid (by
    have := coreReg_any (HM1.out.co.chg HC9.out id) 3
    rw [if_pos (by decide), show (3 : Int).toNat = 3 from rfl, HRun.out.2.2] at this
    exact this)
  have HCF := Lib.hid (HC07.out.step HC9.out)
  clear hC9 HM0 HM1 HR8 b8 hgl8
  go_wp2_with fail
  refine HK0.out.mono ?_
  rintro e wx ⟨rfl, hw⟩
  subst hw
  go_wp2_with fail
  refine HG0.out.mono ?_
  rintro e wx ⟨rfl, hw⟩
  subst hw
  go_wp2_with fail
  refine HK1.out.mono ?_
  rintro e wx ⟨rfl, hw⟩
  subst hw
  go_wp2_with fail
  refine HG1.out.mono ?_
  rintro e wx ⟨rfl, hw⟩
  subst hw
  go_wp2_with fail
  go_ret
  exact ⟨rfl, HCF.out⟩
end Go.Proofs.YtleilfkcjollaaaGreat
set_option linter.unusedVariables false
set_option linter.unusedSimpArgs false
namespace Go.Proofs.YtleilfkcjollaaaGreat
open Go.RowKit Go.RR
set_option maxHeartbeats 1000000 in
set_option maxRecDepth 100000 in
theorem flatReplays_any {w : World} (l : List FactP) (S : Nat → Prop) (v : Value) (hs : Sl w S 16 v l.length (fcells l)) (hok : ∀ f ∈ l, f.Ok) (hn : l.length ≤ 9223372036854775807) :
    Calls Tryz.prog 4 #[v] w (RetW (.bool true) fun w' => Chg NoB w w') := by
  obtain ⟨p, c, rfl⟩ := hs.form
  have HS := Lib.hid hs
  have HF := Lib.hid (first27_any w)
  by_cases hl : l.length ≤ 60
  · have t1 : decide ((60 : Int) < l.length) = false := decide_eq_false (by omega)
    have t2 : decide (60 < l.length) = false := decide_eq_false (by omega)
    have HL := Lib.hid hl
    clear hs hn hl
    go_enter Tryz.func4, Tryz.ntmps4
    go_wp2_with fail
    refine HF.out.mono ?_
    rintro e w1 ⟨rfl, C1⟩
    have HA := Lib.hid (replay_any l _ _ (HS.out.chg0 C1) (by have := HL.out; omega) hok)
    have HC1 := Lib.hid C1
    clear C1
    go_wp2_with fail
    refine HA.out.mono ?_
    rintro e w2 ⟨rfl, C2⟩
    have HB := Lib.hid (refReplay_any l _ _ (HS.out.chg0 (HC1.out.step C2)) (by have := HL.out; omega) hok)
    have HC2 := Lib.hid (HC1.out.step C2)
    obtain ⟨R, hR⟩ : ∃ R, replayF (fun _ => 0) l 0 = R := ⟨_, rfl⟩
    rw [hR] at HB
    simp only [hR]
    obtain ⟨k, b⟩ := R
    clear C2 HA
    go_wp2_with fail
    refine HB.out.mono ?_
    rintro e w3 ⟨rfl, C3⟩
    have HC3 := Lib.hid (HC2.out.step C3)
    clear C3
    cases b <;>
    · go_wp2_with fail
      go_ret
      exact ⟨rfl, HC3.out⟩
  · have t1 : decide ((60 : Int) < l.length) = true := decide_eq_true (by omega)
    have t2 : decide (60 < l.length) = true := decide_eq_true (by omega)
    clear hs hn hl
    go_enter Tryz.func4, Tryz.ntmps4
    go_wp2_with fail
    refine HF.out.mono ?_
    rintro e w1 ⟨rfl, C1⟩
    have HC1 := Lib.hid C1
    clear C1
    go_wp2_with fail
    go_ret
    exact ⟨rfl, HC1.out⟩
end Go.Proofs.YtleilfkcjollaaaGreat
