/- The sender: Acked, Due. -/
import Derived.Test.YtokigldggkkbcaaSend4
import Derived.Shelf.Abstract
set_option linter.unusedVariables false
namespace Go.Proofs.Ytokigldggkkbcaa
open Go.RowKit Go.RR

theorem acl (ga : Nat) (ack seq due wait : Int) (p : Option Addr) (n c : Nat) (w : World) (ha : w.cell? ⟨ga, 0, none⟩ = some (.int .u64 ack)) :
    Calls Try.prog 82 #[.agg #[.int .u64 seq, .slice p n c, .int .i64 due, .int .i64 wait], .pointer (some ⟨ga, 0, none⟩)] w (RetW (.bool (decide (seq < ack))) fun w' => Chg NoB w w') := by
  have hl := World.block_lt_of_cell? w _ ha
  simp only at hl
  have A1 := (Chg.refl NoB w).alloc (.cells #[.int .u64 seq, .slice p n c, .int .i64 due, .int .i64 wait] 133)
  have h2 := A1.cell ha id
  go_enter Try.func82, Try.ntmps82
  go_wp2
  go_ret
  exact ⟨rfl, A1⟩

set_option maxHeartbeats 2000000 in
set_option maxRecDepth 100000 in
theorem idxAt {S1 S3 : Nat → Prop} {w : World} (ga : Nat) (ack : Int) (fv : Value) (fl : List Fl) (fs : List Value) (ha : w.cell? ⟨ga, 0, none⟩ = some (.int .u64 ack)) (hF : Sl w S1 4 fv fl.length (fcells fl fs)) (hQ : RowsAt w S3 fs (fbodies fl)) (hl : fl.length ≤ 100000) :
    Calls Try.prog 85 #[fv, .func (.func 82) #[] #[.pointer (some ⟨ga, 0, none⟩)]] w (RetV fun v w' => Chg NoB w w' ∧ ((v = .int .i64 (-1) ∧ ∀ f ∈ fl, ¬ f.seq < ack) ∨ ∃ i : Nat, v = .int .i64 i ∧ i < fl.length ∧ (∀ j f, j < i → fl[j]? = some f → ¬ f.seq < ack) ∧ ∀ f, fl[i]? = some f → f.seq < ack)) := by
  obtain ⟨p2, c2, rfl⟩ := hF.form
  have e1 : ∀ args w, (callFunc 82 args).run Try.prog w = .ok (.enter 82 args) w := enters_of Try.func82 (by kernel_rfl) rfl
  have HF := Lib.hid hF
  have HQ := Lib.hid hQ
  clear hF hQ
  go_enter Try.func85, Try.ntmps85
  go_wp2_with fail
  go_loopg [8] fl.length (fun m ix wr => ∃ i : Nat, i + m = fl.length ∧ ix = .int .i64 i ∧ (∀ j f, j < i → fl[j]? = some f → ¬ f.seq < ack) ∧ Chg NoB w wr)
  case atStart => exact ⟨0, by omega, rfl, fun j f hj => by omega, Chg.refl _ _⟩
  case round =>
    obtain ⟨i, hi, rfl, hno, hC⟩ := hrel
    have HI := Lib.hid hi
    have HNO := Lib.hid hno
    have hil : i ≤ fl.length := by omega
    clear hi hno
    by_cases hlt : i < fl.length
    · obtain ⟨f, hf⟩ : ∃ f, fl[i]? = some f := ⟨fl[i], by simp [hlt]⟩
      obtain ⟨v, hv, hvs⟩ := HQ.out.2 i _ (show (fbodies fl)[i]? = some (byteCells f.b) by simp [fbodies, hf])
      obtain ⟨pv, cv, rfl⟩ := hvs.form
      obtain ⟨-, p, c, e, hn, h2⟩ := HF.out
      cases e
      obtain ⟨g, off, rfl, hg, hgl, hcell⟩ := h2 (by omega)
      obtain ⟨a0, a1, a2, a3⟩ := fcells_at _ _ i f _ hf hv
      have k0 := hC.cell (hcell _ _ a0) id
      have k1 := hC.cell (hcell _ _ a1) id
      have k2 := hC.cell (hcell _ _ a2) id
      have k3 := hC.cell (hcell _ _ a3) id
      rw [← Nat.add_assoc] at k1 k2 k3
      have l0 : (0 : Int) ≤ i := by omega
      have l1 : (i : Int) < fl.length := by omega
      have HFF := Lib.hid hf
      have ha2 := hC.cell ha id
      clear hf hv hvs h2 hcell a0 a1 a2 a3 ha
      go_wp2_with fail
      refine (acl ga ack f.seq f.due f.wait pv _ cv wr ha2).mono ?_
      rintro e w2 ⟨rfl, C2⟩
      have CF := hC.step C2
      by_cases hs : f.seq < ack
      · have d : decide (f.seq < ack) = true := by simpa using hs
        have HSQ := Lib.hid hs
        clear k0 k1 k2 k3 hs
        go_wp2_with fail
        go_ret
        exact ⟨_, rfl, CF, .inr ⟨i, rfl, hlt, HNO.out, fun f' hf' => by rw [HFF.out] at hf'; cases hf'; exact HSQ.out⟩⟩
      · have d : decide (f.seq < ack) = false := by simpa using hs
        have HSQ := Lib.hid hs
        clear k0 k1 k2 k3 hs
        go_wp2_with fail
        go_roundg (fl.length - (i + 1))
        case measure => have := HI.out; omega
        case rel =>
          refine ⟨i + 1, by have := HI.out; omega, by go_num, fun j f' hj hf' => ?_, CF⟩
          rcases Nat.lt_or_ge j i with h | h
          · exact HNO.out j f' h hf'
          · obtain rfl : j = i := by omega
            rw [HFF.out] at hf'; cases hf'; exact HSQ.out
    · obtain rfl : i = fl.length := by have := HI.out; omega
      go_wp2
      go_ret
      exact ⟨_, rfl, hC, .inl ⟨rfl, fun f hf => by
        obtain ⟨k, hk⟩ := List.mem_iff_getElem?.1 hf
        exact HNO.out k f (List.getElem?_eq_some_iff.1 hk).1 hk⟩⟩

set_option maxHeartbeats 1000000 in
set_option maxRecDepth 100000 in
theorem dueAt {S : Nat → Prop} {w : World} {b : Nat} {window wait longest : Int} {line : List ByteArray} {fl : List Fl} {next : Int} (h : SendAt S w b window wait longest line fl next) (hl : fl.length ≤ 100000) (d : Int) (hd : (fl.map (·.due)).foldl min ((fl.map (·.due)).headD 0) = d) :
    Calls Try.prog 53 #[.pointer (some ⟨b, 0, none⟩)] w (RetW (.tuple #[.int .i64 d, .bool (decide (0 < fl.length))]) fun w' => Chg NoB w w') := by
  have HFL := Lib.hid (flightAt h)
  obtain ⟨S1, S2, S3, lv, fv, ls, fs, h0, h1, h2, h3, hB, hL, hR, hF, hQ⟩ := h
  obtain ⟨p2, c2, rfl⟩ := hF.form
  have x4 : w.cell? ⟨b, 4, none⟩ = some (.slice p2 fl.length c2) := hB.cell' (i := 4) (by rfl)
  have HF := Lib.hid hF
  have HQ := Lib.hid hQ
  have HD := Lib.hid hd
  clear hB hL hR hF hQ h1 h2 h3 hd
  by_cases hn : fl.length = 0
  · obtain rfl : fl = [] := List.eq_nil_of_length_eq_zero hn
    have hd := HD.out
    simp at hd
    subst hd
    go_enter Try.func53, Try.ntmps53
    go_wp2_with fail
    refine HFL.out.mono ?_
    rintro e w1 ⟨rfl, rfl⟩
    go_wp2_with fail
    go_ret2
    exact ⟨rfl, Chg.refl _ _⟩
  · obtain ⟨g, off, cap, e, hg, hgl, hcap, hcell, -⟩ := HF.out.spot (by omega)
    cases e
    have hne : ((fl.length : Int) == 0) = false := by simp [hn]
    obtain ⟨f0, hf0⟩ : ∃ f, fl[0]? = some f := ⟨fl[0]'(by omega), by simp⟩
    obtain ⟨v0, hv0, -⟩ := HQ.out.2 0 _ (show (fbodies fl)[0]? = some (byteCells f0.b) by simp [fbodies, hf0])
    obtain ⟨-, -, a2, -⟩ := fcells_at _ _ 0 f0 _ hf0 hv0
    have k2 := hcell _ _ a2
    have HCE := Lib.hid hcell
    have HF0 := Lib.hid hf0
    have l0 : (0 : Int) < fl.length := by omega
    have dec : decide (0 < fl.length) = true := by simp; omega
    rw [dec]
    clear hn hcell a2 hf0 hv0
    go_enter Try.func53, Try.ntmps53
    go_wp2_with fail
    refine HFL.out.mono ?_
    rintro e w1 ⟨rfl, rfl⟩
    go_wp2_with fail
    go_loopg [4, 22] fl.length (fun m l ix wr => ∃ i : Nat, i + m = fl.length ∧ ix = .int .i64 i ∧ l = .int .i64 (((fl.take i).map (·.due)).foldl min f0.due) ∧ Chg NoB w wr)
    case atStart => exact ⟨0, by omega, rfl, rfl, Chg.refl _ _⟩
    case round =>
      obtain ⟨i, hi, rfl, rfl, hC⟩ := hrel
      have HI := Lib.hid hi
      have hil : i ≤ fl.length := by omega
      clear hi k2
      by_cases hlt : i < fl.length
      · obtain ⟨f, hf⟩ : ∃ f, fl[i]? = some f := ⟨fl[i], by simp [hlt]⟩
        obtain ⟨v, hv, hvs⟩ := HQ.out.2 i _ (show (fbodies fl)[i]? = some (byteCells f.b) by simp [fbodies, hf])
        obtain ⟨pv, cv, rfl⟩ := hvs.form
        obtain ⟨a0, a1, a2, a3⟩ := fcells_at _ _ i f _ hf hv
        have k0 := hC.cell (HCE.out _ _ a0) id
        have k1 := hC.cell (HCE.out _ _ a1) id
        have k2 := hC.cell (HCE.out _ _ a2) id
        have k3 := hC.cell (HCE.out _ _ a3) id
        rw [← Nat.add_assoc] at k1 k2 k3
        have i0 : (0 : Int) ≤ i := by omega
        have i1 : (i : Int) < fl.length := by omega
        have hsn : ((fl.take (i + 1)).map (·.due)).foldl min f0.due = min (((fl.take i).map (·.due)).foldl min f0.due) f.due := by
          rw [List.take_add_one, hf]; simp
        generalize hmm : ((fl.take i).map (·.due)).foldl min f0.due = mm at *
        have HSN := Lib.hid hsn
        clear hf hv hvs a0 a1 a2 a3 hsn hmm
        by_cases hmin : mm ≤ f.due
        · have HE := Lib.hid (show min mm f.due = mm by omega)
          go_wp2_with fail
          go_roundg (fl.length - (i + 1))
          case measure => have := HI.out; omega
          case rel => exact ⟨i + 1, by have := HI.out; omega, by go_num, by rw [HSN.out, HE.out], hC.alloc _⟩
        · have HE := Lib.hid (show min mm f.due = f.due by omega)
          have hmin' : f.due < mm := by omega
          go_wp2_with fail
          go_roundg (fl.length - (i + 1))
          case measure => have := HI.out; omega
          case rel => exact ⟨i + 1, by have := HI.out; omega, by go_num, by rw [HSN.out, HE.out], hC.alloc _⟩
      · obtain rfl : i = fl.length := by have := HI.out; omega
        have hd := HD.out
        have hh : (fl.map (·.due)).headD 0 = f0.due := by
          cases fl with
          | nil => simp at l0
          | cons x l => have := HF0.out; simp at this; subst this; rfl
        rw [hh] at hd
        rw [List.take_length, hd]
        go_wp2
        go_ret2
        exact ⟨rfl, hC⟩
end Go.Proofs.Ytokigldggkkbcaa
