/- The program's Line is the plain reading of a line. No condition. -/
import Derived.Test.YtfidiiifcmmffaaGreatDoorAsm15
set_option linter.unusedVariables false
set_option linter.unusedSimpArgs false
namespace Go.Proofs.YtfidiiifcmmffaaGreatDoor
open Go.RowKit Go.RR
def lineV (s : Bs) : Value := match lineP s with
  | none => .tuple #[.agg (ic ⟨0, 0, 0, 0, 0⟩), .bool false]
  | some i => .tuple #[.agg (ic i), .bool true]
theorem lineV_none {s : Bs} (h : lineP s = none) : lineV s = .tuple #[.agg #[.int .i64 0, .int .i64 0, .int .i64 0, .int .i64 0, .int .i64 0], .bool false] := by unfold lineV; rw [h]; rfl
theorem lineV_some {s : Bs} {i : In} (h : lineP s = some i) : lineV s = .tuple #[.agg #[.int .i64 i.op, .int .i64 i.rd, .int .i64 i.rs, .int .i64 i.rt, .int .i64 i.im], .bool true] := by unfold lineV; rw [h]; rfl
theorem restS_in {s : Bs} (h : (32 : UInt8) ∈ s) : restS s = sepF ((s.dropWhile fun c => decide (c ≠ 32)).drop 1) := by
  unfold restS
  cases hd : s.dropWhile fun c => decide (c ≠ 32) with
  | nil =>
    have h1 := List.takeWhile_append_dropWhile (p := fun c : UInt8 => decide (c ≠ 32)) (l := s)
    rw [hd, List.append_nil] at h1
    rw [← h1] at h
    have h2 : decide ((32 : UInt8) ≠ 32) = true := by
      have : ∀ (l : Bs) (x : UInt8), x ∈ l.takeWhile (fun c => decide (c ≠ 32)) → decide (x ≠ 32) = true := by
        intro l
        induction l with
        | nil => intro x hx; cases hx
        | cons y l ih =>
          intro x hx
          rw [List.takeWhile_cons] at hx
          split at hx
          · rcases List.mem_cons.1 hx with rfl | hx
            · assumption
            · exact ih x hx
          · cases hx
      exact this s _ h
    simp at h2
  | cons c r => rfl
theorem restS_no {s : Bs} (h : (32 : UInt8) ∉ s) : restS s = [] := by
  unfold restS
  obtain ⟨_, e⟩ := span_all (p := fun c : UInt8 => decide (c ≠ 32)) (a := s) fun x hx => by rw [ne_dec]; rintro rfl; exact h hx
  rw [e]
theorem sep_bound (s : Bs) : (∀ p ∈ sepF s, p.length ≤ s.length) ∧ (sepF s).length ≤ s.length + 1 := by
  have key : ∀ (n : Nat) (s : Bs), s.length ≤ n → (∀ p ∈ sepF s, p.length ≤ s.length) ∧ (sepF s).length ≤ s.length + 1 := by
    intro n
    induction n with
    | zero => intro s h; obtain rfl := List.eq_nil_of_length_eq_zero (Nat.le_zero.1 h); exact ⟨by decide, by decide⟩
    | succ n ih =>
      intro s h
      rcases s with _ | ⟨a, _ | ⟨b, s⟩⟩
      · exact ⟨by decide, by decide⟩
      · refine ⟨fun p hp => ?_, by simp [sepF]⟩
        rw [show sepF [a] = [[a]] from rfl, List.mem_singleton] at hp
        rw [hp]; exact Nat.le_refl _
      · by_cases hc : a = 44 ∧ b = 32
        · rw [sepF, if_pos hc]
          obtain ⟨h1, h2⟩ := ih s (by simp only [List.length_cons] at h; omega)
          refine ⟨fun p hp => ?_, by simp only [List.length_cons]; omega⟩
          rcases List.mem_cons.1 hp with rfl | hp
          · simp
          · have := h1 p hp
            simp only [List.length_cons]; omega
        · obtain ⟨x, xs, e⟩ := sep_ne (b :: s)
          rw [sep_step hc e]
          obtain ⟨h1, h2⟩ := ih (b :: s) (by simp only [List.length_cons] at h ⊢; omega)
          rw [e] at h1 h2
          simp only [List.length_cons] at h2 ⊢
          refine ⟨fun p hp => ?_, by omega⟩
          rcases List.mem_cons.1 hp with rfl | hp
          · have := h1 x (List.mem_cons_self ..)
            simp only [List.length_cons] at this ⊢; omega
          · have := h1 p (List.mem_cons_of_mem _ hp)
            simp only [List.length_cons] at this; omega
  exact key s.length s (Nat.le_refl _)
theorem cell_bsv (l : List ByteArray) : l.map Value.string = (l.map (·.data.toList)).map bsv := by
  rw [List.map_map]
  exact List.map_congr_left fun b _ => congrArg Value.string (ba_list' b)
/-- What Split answers, as texts. -/
theorem split_gen (sep s : Bs) (l : List Bs) (hsep : 1 ≤ sep.length) (hk : Go.Lib.splitK sep 0 (Go.Lib.count s sep) s = l) (w : World) (hl : s.length ≤ 100000) (L : Lb w) : Calls Tryz.prog 30 #[.string ⟨s.toArray⟩, .string ⟨sep.toArray⟩] w
    (RetW (.slice (some ⟨w.heap.size, 0, none⟩) l.length l.length) fun w' => Chg NoB w w' ∧ w.heap.size < w'.heap.size ∧ ∀ (j : Nat) (p : Bs), l[j]? = some p → w'.cell? ⟨w.heap.size, j, none⟩ = some (.string ⟨p.toArray⟩)) := by
  obtain ⟨m, hm⟩ := L.mx
  refine (Tryz.strings_Split ⟨s.toArray⟩ ⟨sep.toArray⟩ m w (by show s.toArray.size < _; simp; omega) hm (by show 1 ≤ sep.toArray.size; simpa using hsep)).mono ?_
  rintro e w' ⟨rfl, rfl⟩
  have e1 := Go.Lib.splitB_data ⟨sep.toArray⟩ 0 (Go.Lib.countB ⟨s.toArray⟩ ⟨sep.toArray⟩) ⟨s.toArray⟩
  have e2 : Go.Lib.splitK (ByteArray.mk sep.toArray).data.toList 0 (Go.Lib.countB ⟨s.toArray⟩ ⟨sep.toArray⟩) (ByteArray.mk s.toArray).data.toList = l := hk
  rw [e2] at e1
  have e3 := Go.Lib.splitB_all ⟨sep.toArray⟩ (by show 1 ≤ sep.toArray.size; simpa using hsep) 0 _ ⟨s.toArray⟩ rfl
  have e4 : l.length = Go.Lib.countB ⟨s.toArray⟩ ⟨sep.toArray⟩ + 1 := by rw [← e3, ← e1, List.length_map]
  rw [cell_bsv, e1, ← e4]
  exact ⟨rfl, (Chg.refl NoB w).alloc _, by simp, fun j p hj => (Blk.new w _ 9).cell' (by rw [List.getElem?_toArray, List.getElem?_map, hj]; rfl)⟩
def opR : Option Nat → Value
  | none => .tuple #[.int .i64 0, .bool false]
  | some k => .tuple #[.int .i64 k, .bool true]
def lineQ (s : Bs) : Option Nat → Option In
  | none => none
  | some o => match fillP o (restS s) with
    | none => none
    | some i => if rightB i = true then some i else none
theorem opV_R (s : Bs) : opV s = opR (opOf s) := by unfold opV; cases opOf s <;> rfl
theorem lineP_Q (s : Bs) : lineP s = lineQ s (opOf (nameS s)) := by unfold lineP; cases opOf (nameS s) <;> rfl
theorem split_any (s : Bs) (w : World) (hl : s.length ≤ 100000) (L : Lb w) : Calls Tryz.prog 30 #[.string ⟨s.toArray⟩, .string ⟨#[44, 32]⟩] w
    (RetW (.slice (some ⟨w.heap.size, 0, none⟩) (sepF s).length (sepF s).length) fun w' => Chg NoB w w' ∧ w.heap.size < w'.heap.size ∧ ∀ (j : Nat) (p : Bs), (sepF s)[j]? = some p → w'.cell? ⟨w.heap.size, j, none⟩ = some (.string ⟨p.toArray⟩)) := split_gen [44, 32] s (sepF s) (by decide) (split_sep s) w hl L
set_option maxHeartbeats 4000000 in
set_option maxRecDepth 100000 in
theorem line_any (s : Bs) (w : World) (hl : s.length ≤ 99999) (L : Lb w) : Calls Tryz.prog 13 #[.string ⟨s.toArray⟩] w (RetW (lineV s) fun w' => Chg NoB w w') := by
  have L1 : Lb (w.alloc (.cells (ic ⟨0, 0, 0, 0, 0⟩) 24)) := L.chg0 ((Chg.refl NoB w).alloc _)
  obtain ⟨m, hm⟩ := L1.mx
  have H0 := Lib.hid (Tryz.strings_Cut ⟨s.toArray⟩ ⟨#[32]⟩ m (w.alloc (.cells (ic ⟨0, 0, 0, 0, 0⟩) 24)) (by show s.toArray.size < _; simp; omega) hm)
  have e0 : (ByteArray.mk #[32]).data.toList = [32] := rfl
  have e1 : (ByteArray.mk s.toArray).data.toList = s := rfl
  obtain ⟨c1, c2, c3⟩ := cut_at 32 s
  rw [e0, e1, c1, c2, c3] at H0
  have hA : (s.takeWhile fun c => decide (c ≠ 32)) = nameS s := rfl
  rw [hA] at H0
  have la : (nameS s).length ≤ s.length := (List.takeWhile_sublist _).length_le
  have lr : ((s.dropWhile fun c => decide (c ≠ 32)).drop 1).length ≤ s.length := by rw [List.length_drop]; have := (List.dropWhile_sublist (fun c : UInt8 => decide (c ≠ 32)) (l := s)).length_le; omega
  have r1 : (32 : UInt8) ∈ s → restS s = sepF ((s.dropWhile fun c => decide (c ≠ 32)).drop 1) := restS_in
  have r2 : (32 : UInt8) ∉ s → restS s = [] := restS_no
  generalize ((s.dropWhile fun c => decide (c ≠ 32)).drop 1) = R at *
  have HR1 := Lib.hid r1
  have HR2 := Lib.hid r2
  have HLR : Hid (R.length ≤ 99999) := Lib.hid (by omega)
  have HBR := Lib.hid (Blk.new w (ic ⟨0, 0, 0, 0, 0⟩) 24)
  have HC := Lib.hid ((Chg.refl NoB w).alloc (.cells (ic ⟨0, 0, 0, 0, 0⟩) 24))
  have HL := Lib.hid L
  obtain ⟨z, hz⟩ : ∃ z, decide ((32 : UInt8) ∈ s) = z := ⟨_, rfl⟩
  rw [hz] at H0
  have HZ := Lib.hid hz
  have HP : Hid (lineP s = lineQ s (opOf (nameS s))) := Lib.hid (lineP_Q s)
  obtain ⟨ro, hro⟩ : ∃ ro, opOf (nameS s) = ro := ⟨_, rfl⟩
  have HOP : Hid (∀ w, Lb w → Calls Tryz.prog 29 #[.string ⟨(nameS s).toArray⟩] w (RetW (opR ro) fun w' => Chg NoB w w')) := Lib.hid fun w L => by
    rw [← hro, ← opV_R]; exact op_any _ w L
  rw [hro] at HP
  have HRO := Lib.hid hro
  clear L L1 hm m e0 e1 c1 c2 c3 hA r1 r2 lr la hz hro
  go_enter Tryz.func13, Tryz.ntmps13
  go_wp2_with fail
  refine H0.out.mono ?_
  rintro e w1 ⟨rfl, nd, hw1⟩
  subst hw1
  go_wp2_with fail
  refine (HOP.out _ (HL.out.chg0 (HC.out.drewN nd))).mono ?_
  rintro e w2 ⟨rfl, C2⟩
  have HC2 := Lib.hid ((HC.out.drewN nd).step C2)
  have HB2 := Lib.hid (C2.blk0 (HBR.out.drewN nd))
  clear C2
  cases ro with
  | none =>
    simp only [opR]
    have HQ : Hid (lineV s = .tuple #[.agg #[.int .i64 0, .int .i64 0, .int .i64 0, .int .i64 0, .int .i64 0], .bool false]) := Lib.hid (lineV_none HP.out)
    have x0 := HB2.out.cell' (i := 0) (v := .int .i64 0) rfl
    have x1 := HB2.out.cell' (i := 1) (v := .int .i64 0) rfl
    have x2 := HB2.out.cell' (i := 2) (v := .int .i64 0) rfl
    have x3 := HB2.out.cell' (i := 3) (v := .int .i64 0) rfl
    have x4 := HB2.out.cell' (i := 4) (v := .int .i64 0) rfl
    have f0 := HB2.out.frozen 0
    have f1 := HB2.out.frozen 1
    have f2 := HB2.out.frozen 2
    have f3 := HB2.out.frozen 3
    have f4 := HB2.out.frozen 4
    have hbl := HB2.out.lt
    go_wp2_with fail
    exact bodyPost_ret (v := .tuple #[.agg #[.int .i64 0, .int .i64 0, .int .i64 0, .int .i64 0, .int .i64 0], .bool false]) (by simp [results, Tryz.results13, go_sem, x0, x1, x2, x3, x4, hbl]) rfl
      ⟨by rw [HQ.out], ((((HC2.out.setCell (.inr (Nat.le_refl _)) _).setCell (.inr (Nat.le_refl _)) _).setCell (.inr (Nat.le_refl _)) _).setCell (.inr (Nat.le_refl _)) _).setCell (.inr (Nat.le_refl _)) _⟩
  | some o =>
    simp only [opR]
    obtain ⟨ho, _⟩ := opOf_some HRO.out
    have hkz : kd o ≠ .z := (by decide : ∀ k < 35, kd (k : Nat) ≠ .z) o ho
    have HKZ := Lib.hid hkz
    obtain ⟨oi, hoi⟩ : ∃ oi : Int, (o : Int) = oi := ⟨_, rfl⟩
    have hQ : lineP s = match fillP oi (restS s) with | none => none | some i => if rightB i = true then some i else none := by rw [HP.out, ← hoi]; rfl
    have HPQ := Lib.hid hQ
    rw [hoi] at HKZ ⊢
    have hbl := HB2.out.lt
    clear hQ hoi hkz ho
    have HC3 : Hid (Chg NoB w2 (w2.alloc (.cells (ic ⟨oi, 0, 0, 0, 0⟩) 24))) := Lib.hid ((Chg.refl NoB w2).alloc _)
    have HB3 : Hid (Blk (w2.alloc (.cells (ic ⟨oi, 0, 0, 0, 0⟩) 24)) w2.heap.size (ic ⟨oi, 0, 0, 0, 0⟩) 24) := Lib.hid (Blk.new w2 _ _)
    cases z
    · have hns : (32 : UInt8) ∉ s := of_decide_eq_false HZ.out
      have hrs := HR2.out hns
      have HLB : Hid (∀ p ∈ restS s, p.length ≤ 100000) := Lib.hid (by rw [hrs]; intro p hp; cases hp)
      have HLL : Hid ((restS s).length ≤ 100000) := Lib.hid (by rw [hrs]; simp)
      have HLN : Hid ((restS s).length = 0) := Lib.hid (by rw [hrs]; rfl)
      have HLP : Hid (∀ (j : Nat) (p : Bs), (restS s)[j]? = some p → ∃ g, (none : Option Addr) = some ⟨g, 0, none⟩ ∧ g ≠ w2.heap.size ∧ g < (w2.alloc (.cells (ic ⟨oi, 0, 0, 0, 0⟩) 24)).heap.size ∧ (w2.alloc (.cells (ic ⟨oi, 0, 0, 0, 0⟩) 24)).cell? ⟨g, j, none⟩ = some (.string ⟨p.toArray⟩)) := Lib.hid (by rw [hrs]; intro j p hp; cases hp)
      have HC4 := HC3
      have HB4 := HB3
      have HR4 := Lib.hid (HC3.out.blk0 HB2.out)
      clear hns hrs
      go_wp2_with fail
      refine (kind_any oi _).mono ?_
      rintro e w4' ⟨rfl, rfl⟩
      by_cases hkL : kd oi = .L
      · have HFL : Hid (Calls Tryz.prog 31 #[.pointer (some ⟨w2.heap.size, 0, none⟩), .string ⟨#[76]⟩, .slice none 0 0] (w2.alloc (.cells (ic ⟨oi, 0, 0, 0, 0⟩) 24)) (RetV fun v w' => Filled oi (restS s) w2.heap.size 24 (w2.alloc (.cells (ic ⟨oi, 0, 0, 0, 0⟩) 24)) v w')) := Lib.hid (by
          have := mv_all true oi (restS s) w2.heap.size 0 none 24 (w2.alloc (.cells (ic ⟨oi, 0, 0, 0, 0⟩) 24)) hkL HLB.out (HL.out.chg0 (HC2.out.step HC4.out)) HB4.out HLP.out
          rw [HLN.out] at this
          exact this)
        rw [show (kd oi).s = ⟨#[76]⟩ by rw [hkL]; rfl]
        clear hkL
        go_wp2_with fail
        refine HFL.out.mono ?_
        rintro e w5 ⟨v5, rfl, hv5, hF, C5⟩
        subst hv5
        have HC5 := Lib.hid (HC2.out.step (HC4.out.trans C5 (fun k h1 h2 => absurd h2 (by omega))))
        have HR5 := Lib.hid (C5.blk HR4.out (by have := HB2.out.lt; omega))
        have HF := Lib.hid hF
        clear C5 hF
        cases hfp : fillP oi (restS s) with
        | none =>
          have HQ : Hid (lineV s = .tuple #[.agg #[.int .i64 0, .int .i64 0, .int .i64 0, .int .i64 0, .int .i64 0], .bool false]) := Lib.hid (lineV_none (by rw [HPQ.out, hfp]))
          simp only [Option.isSome_none]
          clear hfp
          have x0 := HR5.out.cell' (i := 0) (v := .int .i64 0) rfl
          have x1 := HR5.out.cell' (i := 1) (v := .int .i64 0) rfl
          have x2 := HR5.out.cell' (i := 2) (v := .int .i64 0) rfl
          have x3 := HR5.out.cell' (i := 3) (v := .int .i64 0) rfl
          have x4 := HR5.out.cell' (i := 4) (v := .int .i64 0) rfl
          have f0 := HR5.out.frozen 0
          have f1 := HR5.out.frozen 1
          have f2 := HR5.out.frozen 2
          have f3 := HR5.out.frozen 3
          have f4 := HR5.out.frozen 4
          have hbr := HR5.out.lt
          go_wp2_with fail
          exact bodyPost_ret (v := .tuple #[.agg #[.int .i64 0, .int .i64 0, .int .i64 0, .int .i64 0, .int .i64 0], .bool false]) (by simp [results, Tryz.results13, go_sem, x0, x1, x2, x3, x4, hbr]) rfl
            ⟨by rw [HQ.out], ((((HC5.out.setCell (.inr (Nat.le_refl _)) _).setCell (.inr (Nat.le_refl _)) _).setCell (.inr (Nat.le_refl _)) _).setCell (.inr (Nat.le_refl _)) _).setCell (.inr (Nat.le_refl _)) _⟩
        | some i =>
          simp only [Option.isSome_some]
          have HB5 := Lib.hid (HF.out i hfp)
          obtain ⟨rb, hrb⟩ : ∃ rb, rightB i = rb := ⟨_, rfl⟩
          have HRB := Lib.hid hrb
          have HPI : Hid (lineP s = if rb = true then some i else none) := Lib.hid (by rw [HPQ.out, hfp, ← hrb])
          clear hfp hrb
          have z0 := HB5.out.cell' (i := 0) (v := .int .i64 i.op) rfl
          have z1 := HB5.out.cell' (i := 1) (v := .int .i64 i.rd) rfl
          have z2 := HB5.out.cell' (i := 2) (v := .int .i64 i.rs) rfl
          have z3 := HB5.out.cell' (i := 3) (v := .int .i64 i.rt) rfl
          have z4 := HB5.out.cell' (i := 4) (v := .int .i64 i.im) rfl
          have hbb := HB5.out.lt
          go_wp2_with fail
          refine (right_any i _).mono ?_
          rintro e w6 ⟨rfl, C6⟩
          rw [HRB.out]
          have HB6 := Lib.hid (C6.blk0 HB5.out)
          have HR6 := Lib.hid (C6.blk0 HR5.out)
          have HC6 := Lib.hid (HC5.out.step C6)
          clear z0 z1 z2 z3 z4 hbb C6 HR5 HC5
          have HR5 := HR6
          have HC5 := HC6
          cases rb with
          | false =>
            have HQ : Hid (lineV s = .tuple #[.agg #[.int .i64 0, .int .i64 0, .int .i64 0, .int .i64 0, .int .i64 0], .bool false]) := Lib.hid (lineV_none HPI.out)
            have x0 := HR5.out.cell' (i := 0) (v := .int .i64 0) rfl
            have x1 := HR5.out.cell' (i := 1) (v := .int .i64 0) rfl
            have x2 := HR5.out.cell' (i := 2) (v := .int .i64 0) rfl
            have x3 := HR5.out.cell' (i := 3) (v := .int .i64 0) rfl
            have x4 := HR5.out.cell' (i := 4) (v := .int .i64 0) rfl
            have f0 := HR5.out.frozen 0
            have f1 := HR5.out.frozen 1
            have f2 := HR5.out.frozen 2
            have f3 := HR5.out.frozen 3
            have f4 := HR5.out.frozen 4
            have hbr := HR5.out.lt
            go_wp2_with fail
            exact bodyPost_ret (v := .tuple #[.agg #[.int .i64 0, .int .i64 0, .int .i64 0, .int .i64 0, .int .i64 0], .bool false]) (by simp [results, Tryz.results13, go_sem, x0, x1, x2, x3, x4, hbr]) rfl
              ⟨by rw [HQ.out], ((((HC5.out.setCell (.inr (Nat.le_refl _)) _).setCell (.inr (Nat.le_refl _)) _).setCell (.inr (Nat.le_refl _)) _).setCell (.inr (Nat.le_refl _)) _).setCell (.inr (Nat.le_refl _)) _⟩
          | true =>
            have HQ := Lib.hid (lineV_some HPI.out)
            have z0 := HB6.out.cell' (i := 0) (v := .int .i64 i.op) rfl
            have z1 := HB6.out.cell' (i := 1) (v := .int .i64 i.rd) rfl
            have z2 := HB6.out.cell' (i := 2) (v := .int .i64 i.rs) rfl
            have z3 := HB6.out.cell' (i := 3) (v := .int .i64 i.rt) rfl
            have z4 := HB6.out.cell' (i := 4) (v := .int .i64 i.im) rfl
            have hbb := HB6.out.lt
            have x0 := HR5.out.cell' (i := 0) (v := .int .i64 0) rfl
            have x1 := HR5.out.cell' (i := 1) (v := .int .i64 0) rfl
            have x2 := HR5.out.cell' (i := 2) (v := .int .i64 0) rfl
            have x3 := HR5.out.cell' (i := 3) (v := .int .i64 0) rfl
            have x4 := HR5.out.cell' (i := 4) (v := .int .i64 0) rfl
            have f0 := HR5.out.frozen 0
            have f1 := HR5.out.frozen 1
            have f2 := HR5.out.frozen 2
            have f3 := HR5.out.frozen 3
            have f4 := HR5.out.frozen 4
            have hbr := HR5.out.lt
            go_wp2_with fail
            exact bodyPost_ret (v := .tuple #[.agg #[.int .i64 i.op, .int .i64 i.rd, .int .i64 i.rs, .int .i64 i.rt, .int .i64 i.im], .bool true]) (by simp [results, Tryz.results13, go_sem, x0, x1, x2, x3, x4, hbr]) rfl
              ⟨by rw [HQ.out], ((((HC5.out.setCell (.inr (Nat.le_refl _)) _).setCell (.inr (Nat.le_refl _)) _).setCell (.inr (Nat.le_refl _)) _).setCell (.inr (Nat.le_refl _)) _).setCell (.inr (Nat.le_refl _)) _⟩
      · by_cases hkS : kd oi = .S
        · have HFL : Hid (Calls Tryz.prog 31 #[.pointer (some ⟨w2.heap.size, 0, none⟩), .string ⟨#[83]⟩, .slice none 0 0] (w2.alloc (.cells (ic ⟨oi, 0, 0, 0, 0⟩) 24)) (RetV fun v w' => Filled oi (restS s) w2.heap.size 24 (w2.alloc (.cells (ic ⟨oi, 0, 0, 0, 0⟩) 24)) v w')) := Lib.hid (by
            have := mv_all false oi (restS s) w2.heap.size 0 none 24 (w2.alloc (.cells (ic ⟨oi, 0, 0, 0, 0⟩) 24)) hkS HLB.out (HL.out.chg0 (HC2.out.step HC4.out)) HB4.out HLP.out
            rw [HLN.out] at this
            exact this)
          rw [show (kd oi).s = ⟨#[83]⟩ by rw [hkS]; rfl]
          clear hkS hkL
          go_wp2_with fail
          refine HFL.out.mono ?_
          rintro e w5 ⟨v5, rfl, hv5, hF, C5⟩
          subst hv5
          have HC5 := Lib.hid (HC2.out.step (HC4.out.trans C5 (fun k h1 h2 => absurd h2 (by omega))))
          have HR5 := Lib.hid (C5.blk HR4.out (by have := HB2.out.lt; omega))
          have HF := Lib.hid hF
          clear C5 hF
          cases hfp : fillP oi (restS s) with
          | none =>
            have HQ : Hid (lineV s = .tuple #[.agg #[.int .i64 0, .int .i64 0, .int .i64 0, .int .i64 0, .int .i64 0], .bool false]) := Lib.hid (lineV_none (by rw [HPQ.out, hfp]))
            simp only [Option.isSome_none]
            clear hfp
            have x0 := HR5.out.cell' (i := 0) (v := .int .i64 0) rfl
            have x1 := HR5.out.cell' (i := 1) (v := .int .i64 0) rfl
            have x2 := HR5.out.cell' (i := 2) (v := .int .i64 0) rfl
            have x3 := HR5.out.cell' (i := 3) (v := .int .i64 0) rfl
            have x4 := HR5.out.cell' (i := 4) (v := .int .i64 0) rfl
            have f0 := HR5.out.frozen 0
            have f1 := HR5.out.frozen 1
            have f2 := HR5.out.frozen 2
            have f3 := HR5.out.frozen 3
            have f4 := HR5.out.frozen 4
            have hbr := HR5.out.lt
            go_wp2_with fail
            exact bodyPost_ret (v := .tuple #[.agg #[.int .i64 0, .int .i64 0, .int .i64 0, .int .i64 0, .int .i64 0], .bool false]) (by simp [results, Tryz.results13, go_sem, x0, x1, x2, x3, x4, hbr]) rfl
              ⟨by rw [HQ.out], ((((HC5.out.setCell (.inr (Nat.le_refl _)) _).setCell (.inr (Nat.le_refl _)) _).setCell (.inr (Nat.le_refl _)) _).setCell (.inr (Nat.le_refl _)) _).setCell (.inr (Nat.le_refl _)) _⟩
          | some i =>
            simp only [Option.isSome_some]
            have HB5 := Lib.hid (HF.out i hfp)
            obtain ⟨rb, hrb⟩ : ∃ rb, rightB i = rb := ⟨_, rfl⟩
            have HRB := Lib.hid hrb
            have HPI : Hid (lineP s = if rb = true then some i else none) := Lib.hid (by rw [HPQ.out, hfp, ← hrb])
            clear hfp hrb
            have z0 := HB5.out.cell' (i := 0) (v := .int .i64 i.op) rfl
            have z1 := HB5.out.cell' (i := 1) (v := .int .i64 i.rd) rfl
            have z2 := HB5.out.cell' (i := 2) (v := .int .i64 i.rs) rfl
            have z3 := HB5.out.cell' (i := 3) (v := .int .i64 i.rt) rfl
            have z4 := HB5.out.cell' (i := 4) (v := .int .i64 i.im) rfl
            have hbb := HB5.out.lt
            go_wp2_with fail
            refine (right_any i _).mono ?_
            rintro e w6 ⟨rfl, C6⟩
            rw [HRB.out]
            have HB6 := Lib.hid (C6.blk0 HB5.out)
            have HR6 := Lib.hid (C6.blk0 HR5.out)
            have HC6 := Lib.hid (HC5.out.step C6)
            clear z0 z1 z2 z3 z4 hbb C6 HR5 HC5
            have HR5 := HR6
            have HC5 := HC6
            cases rb with
            | false =>
              have HQ : Hid (lineV s = .tuple #[.agg #[.int .i64 0, .int .i64 0, .int .i64 0, .int .i64 0, .int .i64 0], .bool false]) := Lib.hid (lineV_none HPI.out)
              have x0 := HR5.out.cell' (i := 0) (v := .int .i64 0) rfl
              have x1 := HR5.out.cell' (i := 1) (v := .int .i64 0) rfl
              have x2 := HR5.out.cell' (i := 2) (v := .int .i64 0) rfl
              have x3 := HR5.out.cell' (i := 3) (v := .int .i64 0) rfl
              have x4 := HR5.out.cell' (i := 4) (v := .int .i64 0) rfl
              have f0 := HR5.out.frozen 0
              have f1 := HR5.out.frozen 1
              have f2 := HR5.out.frozen 2
              have f3 := HR5.out.frozen 3
              have f4 := HR5.out.frozen 4
              have hbr := HR5.out.lt
              go_wp2_with fail
              exact bodyPost_ret (v := .tuple #[.agg #[.int .i64 0, .int .i64 0, .int .i64 0, .int .i64 0, .int .i64 0], .bool false]) (by simp [results, Tryz.results13, go_sem, x0, x1, x2, x3, x4, hbr]) rfl
                ⟨by rw [HQ.out], ((((HC5.out.setCell (.inr (Nat.le_refl _)) _).setCell (.inr (Nat.le_refl _)) _).setCell (.inr (Nat.le_refl _)) _).setCell (.inr (Nat.le_refl _)) _).setCell (.inr (Nat.le_refl _)) _⟩
            | true =>
              have HQ := Lib.hid (lineV_some HPI.out)
              have z0 := HB6.out.cell' (i := 0) (v := .int .i64 i.op) rfl
              have z1 := HB6.out.cell' (i := 1) (v := .int .i64 i.rd) rfl
              have z2 := HB6.out.cell' (i := 2) (v := .int .i64 i.rs) rfl
              have z3 := HB6.out.cell' (i := 3) (v := .int .i64 i.rt) rfl
              have z4 := HB6.out.cell' (i := 4) (v := .int .i64 i.im) rfl
              have hbb := HB6.out.lt
              have x0 := HR5.out.cell' (i := 0) (v := .int .i64 0) rfl
              have x1 := HR5.out.cell' (i := 1) (v := .int .i64 0) rfl
              have x2 := HR5.out.cell' (i := 2) (v := .int .i64 0) rfl
              have x3 := HR5.out.cell' (i := 3) (v := .int .i64 0) rfl
              have x4 := HR5.out.cell' (i := 4) (v := .int .i64 0) rfl
              have f0 := HR5.out.frozen 0
              have f1 := HR5.out.frozen 1
              have f2 := HR5.out.frozen 2
              have f3 := HR5.out.frozen 3
              have f4 := HR5.out.frozen 4
              have hbr := HR5.out.lt
              go_wp2_with fail
              exact bodyPost_ret (v := .tuple #[.agg #[.int .i64 i.op, .int .i64 i.rd, .int .i64 i.rs, .int .i64 i.rt, .int .i64 i.im], .bool true]) (by simp [results, Tryz.results13, go_sem, x0, x1, x2, x3, x4, hbr]) rfl
                ⟨by rw [HQ.out], ((((HC5.out.setCell (.inr (Nat.le_refl _)) _).setCell (.inr (Nat.le_refl _)) _).setCell (.inr (Nat.le_refl _)) _).setCell (.inr (Nat.le_refl _)) _).setCell (.inr (Nat.le_refl _)) _⟩
        · have HFL : Hid (Calls Tryz.prog 32 #[.pointer (some ⟨w2.heap.size, 0, none⟩), .string (kd oi).s, .slice none 0 0] (w2.alloc (.cells (ic ⟨oi, 0, 0, 0, 0⟩) 24)) (RetV fun v w' => Filled oi (restS s) w2.heap.size 24 (w2.alloc (.cells (ic ⟨oi, 0, 0, 0, 0⟩) 24)) v w')) := Lib.hid (by
            have := fl_all oi (restS s) w2.heap.size 0 none 24 w2 (w2.alloc (.cells (ic ⟨oi, 0, 0, 0, 0⟩) 24)) hkL hkS HKZ.out HLB.out HLL.out (HL.out.chg0 HC2.out) HC4.out (Nat.le_refl _) HB4.out HLP.out
            rw [HLN.out] at this
            exact this)
          have q1 : ((kd oi).s.toList == [76]) = false := by
            revert hkL; cases kd oi <;> intro h <;> first | exact absurd rfl h | decide +kernel
          have q2 : ((kd oi).s.toList == [83]) = false := by
            revert hkS; cases kd oi <;> intro h <;> first | exact absurd rfl h | decide +kernel
          clear hkS hkL
          go_wp2_with fail
          refine HFL.out.mono ?_
          rintro e w5 ⟨v5, rfl, hv5, hF, C5⟩
          subst hv5
          have HC5 := Lib.hid (HC2.out.step (HC4.out.trans C5 (fun k h1 h2 => absurd h2 (by omega))))
          have HR5 := Lib.hid (C5.blk HR4.out (by have := HB2.out.lt; omega))
          have HF := Lib.hid hF
          clear C5 hF
          cases hfp : fillP oi (restS s) with
          | none =>
            have HQ : Hid (lineV s = .tuple #[.agg #[.int .i64 0, .int .i64 0, .int .i64 0, .int .i64 0, .int .i64 0], .bool false]) := Lib.hid (lineV_none (by rw [HPQ.out, hfp]))
            simp only [Option.isSome_none]
            clear hfp
            have x0 := HR5.out.cell' (i := 0) (v := .int .i64 0) rfl
            have x1 := HR5.out.cell' (i := 1) (v := .int .i64 0) rfl
            have x2 := HR5.out.cell' (i := 2) (v := .int .i64 0) rfl
            have x3 := HR5.out.cell' (i := 3) (v := .int .i64 0) rfl
            have x4 := HR5.out.cell' (i := 4) (v := .int .i64 0) rfl
            have f0 := HR5.out.frozen 0
            have f1 := HR5.out.frozen 1
            have f2 := HR5.out.frozen 2
            have f3 := HR5.out.frozen 3
            have f4 := HR5.out.frozen 4
            have hbr := HR5.out.lt
            go_wp2_with fail
            exact bodyPost_ret (v := .tuple #[.agg #[.int .i64 0, .int .i64 0, .int .i64 0, .int .i64 0, .int .i64 0], .bool false]) (by simp [results, Tryz.results13, go_sem, x0, x1, x2, x3, x4, hbr]) rfl
              ⟨by rw [HQ.out], ((((HC5.out.setCell (.inr (Nat.le_refl _)) _).setCell (.inr (Nat.le_refl _)) _).setCell (.inr (Nat.le_refl _)) _).setCell (.inr (Nat.le_refl _)) _).setCell (.inr (Nat.le_refl _)) _⟩
          | some i =>
            simp only [Option.isSome_some]
            have HB5 := Lib.hid (HF.out i hfp)
            obtain ⟨rb, hrb⟩ : ∃ rb, rightB i = rb := ⟨_, rfl⟩
            have HRB := Lib.hid hrb
            have HPI : Hid (lineP s = if rb = true then some i else none) := Lib.hid (by rw [HPQ.out, hfp, ← hrb])
            clear hfp hrb
            have z0 := HB5.out.cell' (i := 0) (v := .int .i64 i.op) rfl
            have z1 := HB5.out.cell' (i := 1) (v := .int .i64 i.rd) rfl
            have z2 := HB5.out.cell' (i := 2) (v := .int .i64 i.rs) rfl
            have z3 := HB5.out.cell' (i := 3) (v := .int .i64 i.rt) rfl
            have z4 := HB5.out.cell' (i := 4) (v := .int .i64 i.im) rfl
            have hbb := HB5.out.lt
            go_wp2_with fail
            refine (right_any i _).mono ?_
            rintro e w6 ⟨rfl, C6⟩
            rw [HRB.out]
            have HB6 := Lib.hid (C6.blk0 HB5.out)
            have HR6 := Lib.hid (C6.blk0 HR5.out)
            have HC6 := Lib.hid (HC5.out.step C6)
            clear z0 z1 z2 z3 z4 hbb C6 HR5 HC5
            have HR5 := HR6
            have HC5 := HC6
            cases rb with
            | false =>
              have HQ : Hid (lineV s = .tuple #[.agg #[.int .i64 0, .int .i64 0, .int .i64 0, .int .i64 0, .int .i64 0], .bool false]) := Lib.hid (lineV_none HPI.out)
              have x0 := HR5.out.cell' (i := 0) (v := .int .i64 0) rfl
              have x1 := HR5.out.cell' (i := 1) (v := .int .i64 0) rfl
              have x2 := HR5.out.cell' (i := 2) (v := .int .i64 0) rfl
              have x3 := HR5.out.cell' (i := 3) (v := .int .i64 0) rfl
              have x4 := HR5.out.cell' (i := 4) (v := .int .i64 0) rfl
              have f0 := HR5.out.frozen 0
              have f1 := HR5.out.frozen 1
              have f2 := HR5.out.frozen 2
              have f3 := HR5.out.frozen 3
              have f4 := HR5.out.frozen 4
              have hbr := HR5.out.lt
              go_wp2_with fail
              exact bodyPost_ret (v := .tuple #[.agg #[.int .i64 0, .int .i64 0, .int .i64 0, .int .i64 0, .int .i64 0], .bool false]) (by simp [results, Tryz.results13, go_sem, x0, x1, x2, x3, x4, hbr]) rfl
                ⟨by rw [HQ.out], ((((HC5.out.setCell (.inr (Nat.le_refl _)) _).setCell (.inr (Nat.le_refl _)) _).setCell (.inr (Nat.le_refl _)) _).setCell (.inr (Nat.le_refl _)) _).setCell (.inr (Nat.le_refl _)) _⟩
            | true =>
              have HQ := Lib.hid (lineV_some HPI.out)
              have z0 := HB6.out.cell' (i := 0) (v := .int .i64 i.op) rfl
              have z1 := HB6.out.cell' (i := 1) (v := .int .i64 i.rd) rfl
              have z2 := HB6.out.cell' (i := 2) (v := .int .i64 i.rs) rfl
              have z3 := HB6.out.cell' (i := 3) (v := .int .i64 i.rt) rfl
              have z4 := HB6.out.cell' (i := 4) (v := .int .i64 i.im) rfl
              have hbb := HB6.out.lt
              have x0 := HR5.out.cell' (i := 0) (v := .int .i64 0) rfl
              have x1 := HR5.out.cell' (i := 1) (v := .int .i64 0) rfl
              have x2 := HR5.out.cell' (i := 2) (v := .int .i64 0) rfl
              have x3 := HR5.out.cell' (i := 3) (v := .int .i64 0) rfl
              have x4 := HR5.out.cell' (i := 4) (v := .int .i64 0) rfl
              have f0 := HR5.out.frozen 0
              have f1 := HR5.out.frozen 1
              have f2 := HR5.out.frozen 2
              have f3 := HR5.out.frozen 3
              have f4 := HR5.out.frozen 4
              have hbr := HR5.out.lt
              go_wp2_with fail
              exact bodyPost_ret (v := .tuple #[.agg #[.int .i64 i.op, .int .i64 i.rd, .int .i64 i.rs, .int .i64 i.rt, .int .i64 i.im], .bool true]) (by simp [results, Tryz.results13, go_sem, x0, x1, x2, x3, x4, hbr]) rfl
                ⟨by rw [HQ.out], ((((HC5.out.setCell (.inr (Nat.le_refl _)) _).setCell (.inr (Nat.le_refl _)) _).setCell (.inr (Nat.le_refl _)) _).setCell (.inr (Nat.le_refl _)) _).setCell (.inr (Nat.le_refl _)) _⟩
    · have hrs := HR1.out (of_decide_eq_true HZ.out)
      have hsb := sep_bound R
      have HSP := Lib.hid (split_any R (w2.alloc (.cells (ic ⟨oi, 0, 0, 0, 0⟩) 24)) (by have := HLR.out; omega) (HL.out.chg0 (HC2.out.step HC3.out)))
      rw [← hrs] at hsb HSP
      have HLB : Hid (∀ p ∈ restS s, p.length ≤ 100000) := Lib.hid (fun p hp => by have := hsb.1 p hp; have := HLR.out; omega)
      have HLL : Hid ((restS s).length ≤ 100000) := Lib.hid (by have := hsb.2; have := HLR.out; omega)
      obtain ⟨nl, hnl⟩ : ∃ nl, (restS s).length = nl := ⟨_, rfl⟩
      rw [hnl] at HSP
      have HLN := Lib.hid hnl
      obtain ⟨gs, hgs⟩ : ∃ gs, (w2.alloc (.cells (ic ⟨oi, 0, 0, 0, 0⟩) 24)).heap.size = gs := ⟨_, rfl⟩
      rw [hgs] at HSP
      have HGS : Hid (gs ≠ w2.heap.size) := Lib.hid (by rw [← hgs]; simp)
      clear hrs hsb hnl hgs
      go_wp2_with fail
      refine HSP.out.mono ?_
      rintro e w4 ⟨rfl, C4, hg, hcell⟩
      have HC4 := Lib.hid (HC3.out.step C4)
      have HB4 := Lib.hid (C4.blk0 HB3.out)
      have HR4 := Lib.hid (C4.blk0 (HC3.out.blk0 HB2.out))
      have HLP : Hid (∀ (j : Nat) (p : Bs), (restS s)[j]? = some p → ∃ g, (some ⟨gs, 0, none⟩ : Option Addr) = some ⟨g, 0, none⟩ ∧ g ≠ w2.heap.size ∧ g < w4.heap.size ∧ w4.cell? ⟨g, j, none⟩ = some (.string ⟨p.toArray⟩)) :=
        Lib.hid fun j p hp => ⟨_, rfl, HGS.out, hg, hcell j p hp⟩
      clear C4 hg hcell
      go_wp2_with fail
      refine (kind_any oi _).mono ?_
      rintro e w4' ⟨rfl, rfl⟩
      by_cases hkL : kd oi = .L
      · have HFL : Hid (Calls Tryz.prog 31 #[.pointer (some ⟨w2.heap.size, 0, none⟩), .string ⟨#[76]⟩, .slice (some ⟨gs, 0, none⟩) nl nl] w4 (RetV fun v w' => Filled oi (restS s) w2.heap.size 24 w4 v w')) := Lib.hid (by
          have := mv_all true oi (restS s) w2.heap.size nl (some ⟨gs, 0, none⟩) 24 w4 hkL HLB.out (HL.out.chg0 (HC2.out.step HC4.out)) HB4.out HLP.out
          rw [HLN.out] at this
          exact this)
        rw [show (kd oi).s = ⟨#[76]⟩ by rw [hkL]; rfl]
        clear hkL
        go_wp2_with fail
        refine HFL.out.mono ?_
        rintro e w5 ⟨v5, rfl, hv5, hF, C5⟩
        subst hv5
        have HC5 := Lib.hid (HC2.out.step (HC4.out.trans C5 (fun k h1 h2 => absurd h2 (by omega))))
        have HR5 := Lib.hid (C5.blk HR4.out (by have := HB2.out.lt; omega))
        have HF := Lib.hid hF
        clear C5 hF
        cases hfp : fillP oi (restS s) with
        | none =>
          have HQ : Hid (lineV s = .tuple #[.agg #[.int .i64 0, .int .i64 0, .int .i64 0, .int .i64 0, .int .i64 0], .bool false]) := Lib.hid (lineV_none (by rw [HPQ.out, hfp]))
          simp only [Option.isSome_none]
          clear hfp
          have x0 := HR5.out.cell' (i := 0) (v := .int .i64 0) rfl
          have x1 := HR5.out.cell' (i := 1) (v := .int .i64 0) rfl
          have x2 := HR5.out.cell' (i := 2) (v := .int .i64 0) rfl
          have x3 := HR5.out.cell' (i := 3) (v := .int .i64 0) rfl
          have x4 := HR5.out.cell' (i := 4) (v := .int .i64 0) rfl
          have f0 := HR5.out.frozen 0
          have f1 := HR5.out.frozen 1
          have f2 := HR5.out.frozen 2
          have f3 := HR5.out.frozen 3
          have f4 := HR5.out.frozen 4
          have hbr := HR5.out.lt
          go_wp2_with fail
          exact bodyPost_ret (v := .tuple #[.agg #[.int .i64 0, .int .i64 0, .int .i64 0, .int .i64 0, .int .i64 0], .bool false]) (by simp [results, Tryz.results13, go_sem, x0, x1, x2, x3, x4, hbr]) rfl
            ⟨by rw [HQ.out], ((((HC5.out.setCell (.inr (Nat.le_refl _)) _).setCell (.inr (Nat.le_refl _)) _).setCell (.inr (Nat.le_refl _)) _).setCell (.inr (Nat.le_refl _)) _).setCell (.inr (Nat.le_refl _)) _⟩
        | some i =>
          simp only [Option.isSome_some]
          have HB5 := Lib.hid (HF.out i hfp)
          obtain ⟨rb, hrb⟩ : ∃ rb, rightB i = rb := ⟨_, rfl⟩
          have HRB := Lib.hid hrb
          have HPI : Hid (lineP s = if rb = true then some i else none) := Lib.hid (by rw [HPQ.out, hfp, ← hrb])
          clear hfp hrb
          have z0 := HB5.out.cell' (i := 0) (v := .int .i64 i.op) rfl
          have z1 := HB5.out.cell' (i := 1) (v := .int .i64 i.rd) rfl
          have z2 := HB5.out.cell' (i := 2) (v := .int .i64 i.rs) rfl
          have z3 := HB5.out.cell' (i := 3) (v := .int .i64 i.rt) rfl
          have z4 := HB5.out.cell' (i := 4) (v := .int .i64 i.im) rfl
          have hbb := HB5.out.lt
          go_wp2_with fail
          refine (right_any i _).mono ?_
          rintro e w6 ⟨rfl, C6⟩
          rw [HRB.out]
          have HB6 := Lib.hid (C6.blk0 HB5.out)
          have HR6 := Lib.hid (C6.blk0 HR5.out)
          have HC6 := Lib.hid (HC5.out.step C6)
          clear z0 z1 z2 z3 z4 hbb C6 HR5 HC5
          have HR5 := HR6
          have HC5 := HC6
          cases rb with
          | false =>
            have HQ : Hid (lineV s = .tuple #[.agg #[.int .i64 0, .int .i64 0, .int .i64 0, .int .i64 0, .int .i64 0], .bool false]) := Lib.hid (lineV_none HPI.out)
            have x0 := HR5.out.cell' (i := 0) (v := .int .i64 0) rfl
            have x1 := HR5.out.cell' (i := 1) (v := .int .i64 0) rfl
            have x2 := HR5.out.cell' (i := 2) (v := .int .i64 0) rfl
            have x3 := HR5.out.cell' (i := 3) (v := .int .i64 0) rfl
            have x4 := HR5.out.cell' (i := 4) (v := .int .i64 0) rfl
            have f0 := HR5.out.frozen 0
            have f1 := HR5.out.frozen 1
            have f2 := HR5.out.frozen 2
            have f3 := HR5.out.frozen 3
            have f4 := HR5.out.frozen 4
            have hbr := HR5.out.lt
            go_wp2_with fail
            exact bodyPost_ret (v := .tuple #[.agg #[.int .i64 0, .int .i64 0, .int .i64 0, .int .i64 0, .int .i64 0], .bool false]) (by simp [results, Tryz.results13, go_sem, x0, x1, x2, x3, x4, hbr]) rfl
              ⟨by rw [HQ.out], ((((HC5.out.setCell (.inr (Nat.le_refl _)) _).setCell (.inr (Nat.le_refl _)) _).setCell (.inr (Nat.le_refl _)) _).setCell (.inr (Nat.le_refl _)) _).setCell (.inr (Nat.le_refl _)) _⟩
          | true =>
            have HQ := Lib.hid (lineV_some HPI.out)
            have z0 := HB6.out.cell' (i := 0) (v := .int .i64 i.op) rfl
            have z1 := HB6.out.cell' (i := 1) (v := .int .i64 i.rd) rfl
            have z2 := HB6.out.cell' (i := 2) (v := .int .i64 i.rs) rfl
            have z3 := HB6.out.cell' (i := 3) (v := .int .i64 i.rt) rfl
            have z4 := HB6.out.cell' (i := 4) (v := .int .i64 i.im) rfl
            have hbb := HB6.out.lt
            have x0 := HR5.out.cell' (i := 0) (v := .int .i64 0) rfl
            have x1 := HR5.out.cell' (i := 1) (v := .int .i64 0) rfl
            have x2 := HR5.out.cell' (i := 2) (v := .int .i64 0) rfl
            have x3 := HR5.out.cell' (i := 3) (v := .int .i64 0) rfl
            have x4 := HR5.out.cell' (i := 4) (v := .int .i64 0) rfl
            have f0 := HR5.out.frozen 0
            have f1 := HR5.out.frozen 1
            have f2 := HR5.out.frozen 2
            have f3 := HR5.out.frozen 3
            have f4 := HR5.out.frozen 4
            have hbr := HR5.out.lt
            go_wp2_with fail
            exact bodyPost_ret (v := .tuple #[.agg #[.int .i64 i.op, .int .i64 i.rd, .int .i64 i.rs, .int .i64 i.rt, .int .i64 i.im], .bool true]) (by simp [results, Tryz.results13, go_sem, x0, x1, x2, x3, x4, hbr]) rfl
              ⟨by rw [HQ.out], ((((HC5.out.setCell (.inr (Nat.le_refl _)) _).setCell (.inr (Nat.le_refl _)) _).setCell (.inr (Nat.le_refl _)) _).setCell (.inr (Nat.le_refl _)) _).setCell (.inr (Nat.le_refl _)) _⟩
      · by_cases hkS : kd oi = .S
        · have HFL : Hid (Calls Tryz.prog 31 #[.pointer (some ⟨w2.heap.size, 0, none⟩), .string ⟨#[83]⟩, .slice (some ⟨gs, 0, none⟩) nl nl] w4 (RetV fun v w' => Filled oi (restS s) w2.heap.size 24 w4 v w')) := Lib.hid (by
            have := mv_all false oi (restS s) w2.heap.size nl (some ⟨gs, 0, none⟩) 24 w4 hkS HLB.out (HL.out.chg0 (HC2.out.step HC4.out)) HB4.out HLP.out
            rw [HLN.out] at this
            exact this)
          rw [show (kd oi).s = ⟨#[83]⟩ by rw [hkS]; rfl]
          clear hkS hkL
          go_wp2_with fail
          refine HFL.out.mono ?_
          rintro e w5 ⟨v5, rfl, hv5, hF, C5⟩
          subst hv5
          have HC5 := Lib.hid (HC2.out.step (HC4.out.trans C5 (fun k h1 h2 => absurd h2 (by omega))))
          have HR5 := Lib.hid (C5.blk HR4.out (by have := HB2.out.lt; omega))
          have HF := Lib.hid hF
          clear C5 hF
          cases hfp : fillP oi (restS s) with
          | none =>
            have HQ : Hid (lineV s = .tuple #[.agg #[.int .i64 0, .int .i64 0, .int .i64 0, .int .i64 0, .int .i64 0], .bool false]) := Lib.hid (lineV_none (by rw [HPQ.out, hfp]))
            simp only [Option.isSome_none]
            clear hfp
            have x0 := HR5.out.cell' (i := 0) (v := .int .i64 0) rfl
            have x1 := HR5.out.cell' (i := 1) (v := .int .i64 0) rfl
            have x2 := HR5.out.cell' (i := 2) (v := .int .i64 0) rfl
            have x3 := HR5.out.cell' (i := 3) (v := .int .i64 0) rfl
            have x4 := HR5.out.cell' (i := 4) (v := .int .i64 0) rfl
            have f0 := HR5.out.frozen 0
            have f1 := HR5.out.frozen 1
            have f2 := HR5.out.frozen 2
            have f3 := HR5.out.frozen 3
            have f4 := HR5.out.frozen 4
            have hbr := HR5.out.lt
            go_wp2_with fail
            exact bodyPost_ret (v := .tuple #[.agg #[.int .i64 0, .int .i64 0, .int .i64 0, .int .i64 0, .int .i64 0], .bool false]) (by simp [results, Tryz.results13, go_sem, x0, x1, x2, x3, x4, hbr]) rfl
              ⟨by rw [HQ.out], ((((HC5.out.setCell (.inr (Nat.le_refl _)) _).setCell (.inr (Nat.le_refl _)) _).setCell (.inr (Nat.le_refl _)) _).setCell (.inr (Nat.le_refl _)) _).setCell (.inr (Nat.le_refl _)) _⟩
          | some i =>
            simp only [Option.isSome_some]
            have HB5 := Lib.hid (HF.out i hfp)
            obtain ⟨rb, hrb⟩ : ∃ rb, rightB i = rb := ⟨_, rfl⟩
            have HRB := Lib.hid hrb
            have HPI : Hid (lineP s = if rb = true then some i else none) := Lib.hid (by rw [HPQ.out, hfp, ← hrb])
            clear hfp hrb
            have z0 := HB5.out.cell' (i := 0) (v := .int .i64 i.op) rfl
            have z1 := HB5.out.cell' (i := 1) (v := .int .i64 i.rd) rfl
            have z2 := HB5.out.cell' (i := 2) (v := .int .i64 i.rs) rfl
            have z3 := HB5.out.cell' (i := 3) (v := .int .i64 i.rt) rfl
            have z4 := HB5.out.cell' (i := 4) (v := .int .i64 i.im) rfl
            have hbb := HB5.out.lt
            go_wp2_with fail
            refine (right_any i _).mono ?_
            rintro e w6 ⟨rfl, C6⟩
            rw [HRB.out]
            have HB6 := Lib.hid (C6.blk0 HB5.out)
            have HR6 := Lib.hid (C6.blk0 HR5.out)
            have HC6 := Lib.hid (HC5.out.step C6)
            clear z0 z1 z2 z3 z4 hbb C6 HR5 HC5
            have HR5 := HR6
            have HC5 := HC6
            cases rb with
            | false =>
              have HQ : Hid (lineV s = .tuple #[.agg #[.int .i64 0, .int .i64 0, .int .i64 0, .int .i64 0, .int .i64 0], .bool false]) := Lib.hid (lineV_none HPI.out)
              have x0 := HR5.out.cell' (i := 0) (v := .int .i64 0) rfl
              have x1 := HR5.out.cell' (i := 1) (v := .int .i64 0) rfl
              have x2 := HR5.out.cell' (i := 2) (v := .int .i64 0) rfl
              have x3 := HR5.out.cell' (i := 3) (v := .int .i64 0) rfl
              have x4 := HR5.out.cell' (i := 4) (v := .int .i64 0) rfl
              have f0 := HR5.out.frozen 0
              have f1 := HR5.out.frozen 1
              have f2 := HR5.out.frozen 2
              have f3 := HR5.out.frozen 3
              have f4 := HR5.out.frozen 4
              have hbr := HR5.out.lt
              go_wp2_with fail
              exact bodyPost_ret (v := .tuple #[.agg #[.int .i64 0, .int .i64 0, .int .i64 0, .int .i64 0, .int .i64 0], .bool false]) (by simp [results, Tryz.results13, go_sem, x0, x1, x2, x3, x4, hbr]) rfl
                ⟨by rw [HQ.out], ((((HC5.out.setCell (.inr (Nat.le_refl _)) _).setCell (.inr (Nat.le_refl _)) _).setCell (.inr (Nat.le_refl _)) _).setCell (.inr (Nat.le_refl _)) _).setCell (.inr (Nat.le_refl _)) _⟩
            | true =>
              have HQ := Lib.hid (lineV_some HPI.out)
              have z0 := HB6.out.cell' (i := 0) (v := .int .i64 i.op) rfl
              have z1 := HB6.out.cell' (i := 1) (v := .int .i64 i.rd) rfl
              have z2 := HB6.out.cell' (i := 2) (v := .int .i64 i.rs) rfl
              have z3 := HB6.out.cell' (i := 3) (v := .int .i64 i.rt) rfl
              have z4 := HB6.out.cell' (i := 4) (v := .int .i64 i.im) rfl
              have hbb := HB6.out.lt
              have x0 := HR5.out.cell' (i := 0) (v := .int .i64 0) rfl
              have x1 := HR5.out.cell' (i := 1) (v := .int .i64 0) rfl
              have x2 := HR5.out.cell' (i := 2) (v := .int .i64 0) rfl
              have x3 := HR5.out.cell' (i := 3) (v := .int .i64 0) rfl
              have x4 := HR5.out.cell' (i := 4) (v := .int .i64 0) rfl
              have f0 := HR5.out.frozen 0
              have f1 := HR5.out.frozen 1
              have f2 := HR5.out.frozen 2
              have f3 := HR5.out.frozen 3
              have f4 := HR5.out.frozen 4
              have hbr := HR5.out.lt
              go_wp2_with fail
              exact bodyPost_ret (v := .tuple #[.agg #[.int .i64 i.op, .int .i64 i.rd, .int .i64 i.rs, .int .i64 i.rt, .int .i64 i.im], .bool true]) (by simp [results, Tryz.results13, go_sem, x0, x1, x2, x3, x4, hbr]) rfl
                ⟨by rw [HQ.out], ((((HC5.out.setCell (.inr (Nat.le_refl _)) _).setCell (.inr (Nat.le_refl _)) _).setCell (.inr (Nat.le_refl _)) _).setCell (.inr (Nat.le_refl _)) _).setCell (.inr (Nat.le_refl _)) _⟩
        · have HFL : Hid (Calls Tryz.prog 32 #[.pointer (some ⟨w2.heap.size, 0, none⟩), .string (kd oi).s, .slice (some ⟨gs, 0, none⟩) nl nl] w4 (RetV fun v w' => Filled oi (restS s) w2.heap.size 24 w4 v w')) := Lib.hid (by
            have := fl_all oi (restS s) w2.heap.size nl (some ⟨gs, 0, none⟩) 24 w2 w4 hkL hkS HKZ.out HLB.out HLL.out (HL.out.chg0 HC2.out) HC4.out (Nat.le_refl _) HB4.out HLP.out
            rw [HLN.out] at this
            exact this)
          have q1 : ((kd oi).s.toList == [76]) = false := by
            revert hkL; cases kd oi <;> intro h <;> first | exact absurd rfl h | decide +kernel
          have q2 : ((kd oi).s.toList == [83]) = false := by
            revert hkS; cases kd oi <;> intro h <;> first | exact absurd rfl h | decide +kernel
          clear hkS hkL
          go_wp2_with fail
          refine HFL.out.mono ?_
          rintro e w5 ⟨v5, rfl, hv5, hF, C5⟩
          subst hv5
          have HC5 := Lib.hid (HC2.out.step (HC4.out.trans C5 (fun k h1 h2 => absurd h2 (by omega))))
          have HR5 := Lib.hid (C5.blk HR4.out (by have := HB2.out.lt; omega))
          have HF := Lib.hid hF
          clear C5 hF
          cases hfp : fillP oi (restS s) with
          | none =>
            have HQ : Hid (lineV s = .tuple #[.agg #[.int .i64 0, .int .i64 0, .int .i64 0, .int .i64 0, .int .i64 0], .bool false]) := Lib.hid (lineV_none (by rw [HPQ.out, hfp]))
            simp only [Option.isSome_none]
            clear hfp
            have x0 := HR5.out.cell' (i := 0) (v := .int .i64 0) rfl
            have x1 := HR5.out.cell' (i := 1) (v := .int .i64 0) rfl
            have x2 := HR5.out.cell' (i := 2) (v := .int .i64 0) rfl
            have x3 := HR5.out.cell' (i := 3) (v := .int .i64 0) rfl
            have x4 := HR5.out.cell' (i := 4) (v := .int .i64 0) rfl
            have f0 := HR5.out.frozen 0
            have f1 := HR5.out.frozen 1
            have f2 := HR5.out.frozen 2
            have f3 := HR5.out.frozen 3
            have f4 := HR5.out.frozen 4
            have hbr := HR5.out.lt
            go_wp2_with fail
            exact bodyPost_ret (v := .tuple #[.agg #[.int .i64 0, .int .i64 0, .int .i64 0, .int .i64 0, .int .i64 0], .bool false]) (by simp [results, Tryz.results13, go_sem, x0, x1, x2, x3, x4, hbr]) rfl
              ⟨by rw [HQ.out], ((((HC5.out.setCell (.inr (Nat.le_refl _)) _).setCell (.inr (Nat.le_refl _)) _).setCell (.inr (Nat.le_refl _)) _).setCell (.inr (Nat.le_refl _)) _).setCell (.inr (Nat.le_refl _)) _⟩
          | some i =>
            simp only [Option.isSome_some]
            have HB5 := Lib.hid (HF.out i hfp)
            obtain ⟨rb, hrb⟩ : ∃ rb, rightB i = rb := ⟨_, rfl⟩
            have HRB := Lib.hid hrb
            have HPI : Hid (lineP s = if rb = true then some i else none) := Lib.hid (by rw [HPQ.out, hfp, ← hrb])
            clear hfp hrb
            have z0 := HB5.out.cell' (i := 0) (v := .int .i64 i.op) rfl
            have z1 := HB5.out.cell' (i := 1) (v := .int .i64 i.rd) rfl
            have z2 := HB5.out.cell' (i := 2) (v := .int .i64 i.rs) rfl
            have z3 := HB5.out.cell' (i := 3) (v := .int .i64 i.rt) rfl
            have z4 := HB5.out.cell' (i := 4) (v := .int .i64 i.im) rfl
            have hbb := HB5.out.lt
            go_wp2_with fail
            refine (right_any i _).mono ?_
            rintro e w6 ⟨rfl, C6⟩
            rw [HRB.out]
            have HB6 := Lib.hid (C6.blk0 HB5.out)
            have HR6 := Lib.hid (C6.blk0 HR5.out)
            have HC6 := Lib.hid (HC5.out.step C6)
            clear z0 z1 z2 z3 z4 hbb C6 HR5 HC5
            have HR5 := HR6
            have HC5 := HC6
            cases rb with
            | false =>
              have HQ : Hid (lineV s = .tuple #[.agg #[.int .i64 0, .int .i64 0, .int .i64 0, .int .i64 0, .int .i64 0], .bool false]) := Lib.hid (lineV_none HPI.out)
              have x0 := HR5.out.cell' (i := 0) (v := .int .i64 0) rfl
              have x1 := HR5.out.cell' (i := 1) (v := .int .i64 0) rfl
              have x2 := HR5.out.cell' (i := 2) (v := .int .i64 0) rfl
              have x3 := HR5.out.cell' (i := 3) (v := .int .i64 0) rfl
              have x4 := HR5.out.cell' (i := 4) (v := .int .i64 0) rfl
              have f0 := HR5.out.frozen 0
              have f1 := HR5.out.frozen 1
              have f2 := HR5.out.frozen 2
              have f3 := HR5.out.frozen 3
              have f4 := HR5.out.frozen 4
              have hbr := HR5.out.lt
              go_wp2_with fail
              exact bodyPost_ret (v := .tuple #[.agg #[.int .i64 0, .int .i64 0, .int .i64 0, .int .i64 0, .int .i64 0], .bool false]) (by simp [results, Tryz.results13, go_sem, x0, x1, x2, x3, x4, hbr]) rfl
                ⟨by rw [HQ.out], ((((HC5.out.setCell (.inr (Nat.le_refl _)) _).setCell (.inr (Nat.le_refl _)) _).setCell (.inr (Nat.le_refl _)) _).setCell (.inr (Nat.le_refl _)) _).setCell (.inr (Nat.le_refl _)) _⟩
            | true =>
              have HQ := Lib.hid (lineV_some HPI.out)
              have z0 := HB6.out.cell' (i := 0) (v := .int .i64 i.op) rfl
              have z1 := HB6.out.cell' (i := 1) (v := .int .i64 i.rd) rfl
              have z2 := HB6.out.cell' (i := 2) (v := .int .i64 i.rs) rfl
              have z3 := HB6.out.cell' (i := 3) (v := .int .i64 i.rt) rfl
              have z4 := HB6.out.cell' (i := 4) (v := .int .i64 i.im) rfl
              have hbb := HB6.out.lt
              have x0 := HR5.out.cell' (i := 0) (v := .int .i64 0) rfl
              have x1 := HR5.out.cell' (i := 1) (v := .int .i64 0) rfl
              have x2 := HR5.out.cell' (i := 2) (v := .int .i64 0) rfl
              have x3 := HR5.out.cell' (i := 3) (v := .int .i64 0) rfl
              have x4 := HR5.out.cell' (i := 4) (v := .int .i64 0) rfl
              have f0 := HR5.out.frozen 0
              have f1 := HR5.out.frozen 1
              have f2 := HR5.out.frozen 2
              have f3 := HR5.out.frozen 3
              have f4 := HR5.out.frozen 4
              have hbr := HR5.out.lt
              go_wp2_with fail
              exact bodyPost_ret (v := .tuple #[.agg #[.int .i64 i.op, .int .i64 i.rd, .int .i64 i.rs, .int .i64 i.rt, .int .i64 i.im], .bool true]) (by simp [results, Tryz.results13, go_sem, x0, x1, x2, x3, x4, hbr]) rfl
                ⟨by rw [HQ.out], ((((HC5.out.setCell (.inr (Nat.le_refl _)) _).setCell (.inr (Nat.le_refl _)) _).setCell (.inr (Nat.le_refl _)) _).setCell (.inr (Nat.le_refl _)) _).setCell (.inr (Nat.le_refl _)) _⟩
end Go.Proofs.YtfidiiifcmmffaaGreatDoor
