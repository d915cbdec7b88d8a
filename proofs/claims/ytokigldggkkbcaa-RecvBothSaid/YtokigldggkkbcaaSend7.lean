/- The sender: DeleteFunc, Acked: the walks. -/
import Derived.Test.YtokigldggkkbcaaSend6
set_option linter.unusedVariables false
namespace Go.Proofs.Ytokigldggkkbcaa
open Go.RowKit Go.RR

def SlV (ps : List FlV) : Prop := ∀ p ∈ ps, ∃ a n c, p.2 = .slice a n c

set_option maxHeartbeats 4000000 in
set_option maxRecDepth 100000 in
theorem delAt {S2 S3 : Nat → Prop} {w : World} (ga : Nat) (ack : Int) (fv : Value) (fl : List Fl) (fs : List Value) (ha : w.cell? ⟨ga, 0, none⟩ = some (.int .u64 ack)) (hga : ¬ S2 ga) (hF : Own w S2 133 4 fv fl.length (fcells fl fs)) (hQ : RowsAt w S3 fs (fbodies fl)) (hl : fl.length ≤ 100000) :
    Calls Try.prog 81 #[fv, .func (.func 82) #[] #[.pointer (some ⟨ga, 0, none⟩)]] w (RetV fun v w' => Own w' S2 133 4 v (keepP ack (fl.zip fs)).length (pcells (keepP ack (fl.zip fs))) ∧ Chg S2 w w') := by
  obtain ⟨p2, c2, rfl⟩ := hF.form
  have e1 : ∀ args w, (callFunc 82 args).run Try.prog w = .ok (.enter 82 args) w := enters_of Try.func82 (by kernel_rfl) rfl
  have hfs : fs.length = fl.length := by have := hQ.1; simpa [fbodies] using this
  have hzl : (fl.zip fs).length = fl.length := by simp [hfs]
  have hSV : SlV (fl.zip fs) := by
    intro p hp
    obtain ⟨i, hi⟩ := List.mem_iff_getElem?.1 hp
    rw [List.getElem?_zip_eq_some] at hi
    obtain ⟨v, hv, hvs⟩ := hQ.2 i _ (show (fbodies fl)[i]? = some (byteCells p.1.b) by simp [fbodies, hi.1])
    rw [hi.2] at hv
    cases hv
    obtain ⟨a, c, e⟩ := hvs.form
    exact ⟨a, _, c, e⟩
  have HIX := Lib.hid (idxAt ga ack _ fl fs ha hF.sl hQ hl)
  have hmem : ∀ (i : Nat) (f : Fl), fl[i]? = some f → ∃ v, (fl.zip fs)[i]? = some (f, v) := fun i f hf => by
    have hi := (List.getElem?_eq_some_iff.1 hf).1
    exact ⟨fs[i]'(by omega), List.getElem?_zip_eq_some.2 ⟨hf, List.getElem?_eq_getElem _⟩⟩
  have hmem2 : ∀ (i : Nat) (p : FlV), (fl.zip fs)[i]? = some p → fl[i]? = some p.1 := fun i p hp => (List.getElem?_zip_eq_some.1 hp).1
  rw [pcells_zip] at hF
  generalize hps : fl.zip fs = ps at *
  have HZL := Lib.hid hzl
  have HSV := Lib.hid hSV
  have HF := Lib.hid hF
  have HM := Lib.hid hmem
  have HM2 := Lib.hid hmem2
  clear hF hQ hfs hps hSV hmem hmem2 hzl
  go_enter Try.func81, Try.ntmps81
  go_wp2_with fail
  refine HIX.out.mono ?_
  rintro e w1 ⟨_, rfl, C1, hres⟩
  rcases hres with ⟨rfl, hno⟩ | ⟨i0, rfl, hi0, hno, hyes⟩
  · have hk : keepP ack ps = ps := by
      unfold keepP
      rw [List.filter_eq_self]
      intro p hp
      obtain ⟨i, hi⟩ := List.mem_iff_getElem?.1 hp
      have := hno p.1 (List.mem_of_getElem? (HM2.out i p hi))
      simpa using this
    have HKK := Lib.hid hk
    clear hno hk
    go_wp2
    go_ret
    rw [HKK.out, HZL.out]
    exact ⟨_, rfl, HF.out.chg0 C1, C1.mono fun _ _ h => h.elim⟩
  · have hne : ((i0 : Int) == -1) = false := by rw [beq_eq_false_iff_ne]; omega
    have HNO := Lib.hid hno
    have HYES := Lib.hid hyes
    have hst : Kept ack ps ps i0 (i0 + 1) := by
      have hz := HZL.out
      have h1 : keepP ack (ps.take i0) = ps.take i0 := by
        unfold keepP
        rw [List.filter_eq_self]
        intro p hp
        obtain ⟨i, hi⟩ := List.mem_iff_getElem?.1 hp
        rw [List.getElem?_take] at hi
        split at hi
        · rename_i hlt
          have := hno i p.1 hlt (HM2.out i p hi)
          simpa using this
        · cases hi
      obtain ⟨f0, hf0⟩ : ∃ f, fl[i0]? = some f := ⟨fl[i0], by simp [hi0]⟩
      obtain ⟨v0, hv0⟩ := HM.out i0 f0 hf0
      have h2 : ps.take (i0 + 1) = ps.take i0 ++ [(f0, v0)] := by rw [List.take_add_one, hv0]; rfl
      have h3 : keepP ack (ps.take (i0 + 1)) = ps.take i0 := by rw [h2, keepP_snoc, if_pos (hyes f0 hf0), List.append_nil, h1]
      exact ⟨rfl, by omega, by omega, by omega, by rw [h3, List.length_take]; omega, by rw [h3], rfl⟩
    have HST := Lib.hid hst
    have HA := Lib.hid ha
    have hga1 := C1.cell ha id
    clear hno hyes hst ha
    go_wp2_with fail
    go_loopg [5, 6] (fl.length - (i0 + 1)) (fun m is js wr => ∃ (i j : Nat) (l : List FlV), j + m = fl.length ∧ is = .int .i64 i ∧ js = .int .i64 j ∧ i < j ∧ Kept ack ps l i j ∧ SlV l ∧ Own wr S2 133 4 (.slice p2 fl.length c2) fl.length (pcells l) ∧ Chg S2 w wr)
    case atStart => exact ⟨i0, i0 + 1, ps, by omega, rfl, by go_num, by omega, HST.out, HSV.out, HF.out.chg0 C1, C1.mono fun _ _ h => h.elim⟩
    case round =>
      obtain ⟨i, j, l, hj, rfl, rfl, hij, hK, hSL, hO, hC⟩ := hrel
      have HJ := Lib.hid hj
      have HK := Lib.hid hK
      have HSL := Lib.hid hSL
      have HO := Lib.hid hO
      have hjl : j ≤ fl.length := by omega
      clear hj hK hSL hO hga1
      by_cases hlt : j < fl.length
      · obtain ⟨p, hp⟩ : ∃ p, ps[j]? = some p := ⟨ps[j]'(by have := HZL.out; omega), List.getElem?_eq_getElem _⟩
        have hpl := HK.out.at (by have := HZL.out; omega)
        rw [hp] at hpl
        obtain ⟨pa, pn, pc, hpv⟩ := HSL.out p (List.mem_of_getElem? hpl)
        obtain ⟨a0, a1, a2, a3⟩ := pcells_at l j p hpl
        obtain ⟨g, off, cap, e, hg, hgl, hcap, hcell, hfr⟩ := HO.out.spot (by omega)
        cases e
        have k0 := hcell _ _ a0
        have k1 := hcell _ _ a1
        have k2 := hcell _ _ a2
        have k3 := hcell _ _ a3
        rw [hpv] at k1
        rw [← Nat.add_assoc] at k1 k2 k3
        have j0 : (0 : Int) ≤ j := by omega
        have j1 : (j : Int) < fl.length := by omega
        have i0' : (0 : Int) ≤ i := by omega
        have i1 : (i : Int) < fl.length := by omega
        have HP := Lib.hid hp
        have HPV := Lib.hid hpv
        have HPL := Lib.hid hpl
        have hgaw : wr.cell? ⟨ga, 0, none⟩ = some (.int .u64 ack) := hC.cell HA.out hga
        clear hp hpl hpv a0 a1 a2 a3 hcell hfr
        have A3 := (Chg.refl NoB wr).alloc (.cells #[.int .u64 p.1.seq, .slice pa pn pc, .int .i64 p.1.due, .int .i64 p.1.wait] 133)
        have B3 := Blk.new wr #[.int .u64 p.1.seq, .slice pa pn pc, .int .i64 p.1.due, .int .i64 p.1.wait] 133
        have hga3 := A3.cell hgaw id
        obtain ⟨pi, hpi⟩ : ∃ q, l[i]? = some q := ⟨l[i]'(by have := HK.out.1; have := HZL.out; omega), List.getElem?_eq_getElem _⟩
        obtain ⟨qa, qn, qc, hqv⟩ := HSL.out pi (List.mem_of_getElem? hpi)
        have HPI := Lib.hid hpi
        have HQV := Lib.hid hqv
        clear hgaw hpi hqv
        go_wp2_with fail
        refine (acl ga ack p.1.seq p.1.due p.1.wait pa pn pc _ hga3).mono ?_
        rintro e w3 ⟨rfl, C3⟩
        have C13 := A3.step C3
        have B3' := C3.blk0 B3
        have v0 := B3'.cell' (i := 0) (v := .int .u64 p.1.seq) (by rfl)
        have v1 := B3'.cell' (i := 1) (v := .slice pa pn pc) (by rfl)
        have v2 := B3'.cell' (i := 2) (v := .int .i64 p.1.due) (by rfl)
        have v3 := B3'.cell' (i := 3) (v := .int .i64 p.1.wait) (by rfl)
        have HO3 := Lib.hid (HO.out.chg0 C13)
        have HC13 := Lib.hid C13
        clear k0 k1 k2 k3 hga3 A3 B3 C3 B3' C13
        by_cases hs : p.1.seq < ack
        · have d : decide (p.1.seq < ack) = true := by simpa using hs
          have HS := Lib.hid hs
          clear hs
          go_wp2_with fail
          go_roundg (fl.length - (j + 1))
          case measure => have := HJ.out; omega
          case rel => exact ⟨i, j + 1, l, by have := HJ.out; omega, rfl, by go_num, by omega, HK.out.skip HP.out HS.out, HSL.out, HO3.out, hC.then0 HC13.out⟩
        · have d : decide (p.1.seq < ack) = false := by simpa using hs
          have HS := Lib.hid hs
          obtain ⟨b0, b1, b2, b3⟩ := pcells_at l i pi HPI.out
          obtain ⟨-, q1, q2, q3⟩ := HO3.out.at
          have m0 := q2 _ _ b0
          have m1 := q2 _ _ b1
          have m2 := q2 _ _ b2
          have m3 := q2 _ _ b3
          rw [HQV.out] at m1
          rw [← Nat.add_assoc] at m1 m2 m3
          have n0 := q3 (off + i * 4)
          have n1 := q3 (off + i * 4 + 1)
          have n2 := q3 (off + i * 4 + 2)
          have n3 := q3 (off + i * 4 + 3)
          clear hs q2 q3 b0 b1 b2 b3
          go_wp2_with fail
          have hi4 : i * 4 + 3 < fl.length * 4 := by omega
          have Z := (((HO3.out.setAt (k := i * 4) (by omega) (.int .u64 p.1.seq)).setAt (k := i * 4 + 1) (by omega) (.slice pa pn pc)).setAt (k := i * 4 + 2) (by omega) (.int .i64 p.1.due)).setAt (k := i * 4 + 3) (by omega) (.int .i64 p.1.wait)
          rw [← Nat.add_assoc, ← Nat.add_assoc, ← Nat.add_assoc, ← HPV.out, ← pcells_set l i p (by have := HK.out.1; have := HZL.out; omega), HPV.out] at Z
          have CZ : Chg S2 w3 ((((w3.setCell ⟨g, off + i * 4, none⟩ (.int .u64 p.1.seq)).setCell ⟨g, off + i * 4 + 1, none⟩ (.slice pa pn pc)).setCell ⟨g, off + i * 4 + 2, none⟩ (.int .i64 p.1.due)).setCell ⟨g, off + i * 4 + 3, none⟩ (.int .i64 p.1.wait)) :=
            ((((Chg.refl S2 w3).setCell (a := ⟨g, off + i * 4, none⟩) (.inl hg) _).setCell (a := ⟨g, off + i * 4 + 1, none⟩) (.inl hg) _).setCell (a := ⟨g, off + i * 4 + 2, none⟩) (.inl hg) _).setCell (a := ⟨g, off + i * 4 + 3, none⟩) (.inl hg) _
          go_roundg (fl.length - (j + 1))
          case measure => have := HJ.out; omega
          case rel =>
            refine ⟨i + 1, j + 1, l.set i p, by have := HJ.out; omega, by go_num, by go_num, by omega, HK.out.keep hij HP.out (by have := HS.out; omega), fun q hq => ?_, Z, (hC.then0 HC13.out).trans CZ fun _ _ h => h⟩
            rcases List.mem_or_eq_of_mem_set hq with h | h
            · exact HSL.out q h
            · subst h; exact ⟨pa, pn, pc, HPV.out⟩
      · obtain rfl : j = fl.length := by have := HJ.out; omega
        have hK := HK.out
        have hil : i < fl.length := by omega
        have hi4 : i * 4 + (fl.length - i) * 4 = fl.length * 4 := by omega
        obtain ⟨g, off, cap, e, hg, hgl, hcap, hcell, hfr⟩ := HO.out.spot (by omega)
        cases e
        have hln := HO.out.1
        have hcl : ∀ ty, (Builtin.clear_ #[129] ty #[.slice (some ⟨g, off + i * 4, none⟩) (fl.length - i) (c2 - i)]).run Try.prog wr = .ok (.tuple #[]) (wr.setCells g (off + i * 4) (Builtin.zeroCells (Value.agg #[.int .u64 0, .slice none 0 0, .int .i64 0, .int .i64 0]).cells (fl.length - i)).toList) := fun ty =>
          run_clear wr 129 133 ty _ Try.underlying129 Try.zeroValue133 g (off + i * 4) _ _ (by omega) (fl_one _) (fun t ht => by
            have ht : t < (fl.length - i) * 4 := ht
            have := hcell (i * 4 + t) ((pcells l)[i * 4 + t]'(by omega)) (List.getElem?_eq_getElem _)
            rw [← Nat.add_assoc] at this
            rw [this]; rfl) (fun t ht => hfr _)
        have hzl : (Builtin.zeroCells (Value.agg #[.int .u64 0, .slice none 0 0, .int .i64 0, .int .i64 0]).cells (fl.length - i)).toList.length = (fl.length - i) * 4 := by rw [Array.length_toList, size_zeroCells]; rfl
        obtain ⟨Z, CZ, -⟩ := HO.out.setCells (n' := i) (us' := pcells (l.take i)) (off + i * 4) _ (by omega) (by rw [hzl]; have := Nat.mul_le_mul_right 4 hcap; omega) (by rw [pcells_len, List.length_take]; have := hK.1; have := HZL.out; omega) (by omega) (fun t u hu => .inr (by
          rw [pcells_take, List.getElem?_take] at hu
          split at hu
          · exact ⟨hu, .inl (by omega)⟩
          · cases hu))
        have hkl := hK.2.2.2.2.1
        have hkt := hK.2.2.2.2.2.1
        have htk : ps.take fl.length = ps := List.take_of_length_le (by have := HZL.out; omega)
        rw [htk] at hkl hkt
        rw [hkt] at Z
        generalize hwz : wr.setCells g (off + i * 4) (Builtin.zeroCells (Value.agg #[.int .u64 0, .slice none 0 0, .int .i64 0, .int .i64 0]).cells (fl.length - i)).toList = wz at *
        have HKL := Lib.hid hkl
        have HZ := Lib.hid Z
        have i0' : (0 : Int) ≤ i := by omega
        have i1 : (i : Int) < fl.length := by omega
        have i2 : (i : Int) < c2 := by omega
        have i3 : (fl.length : Int) ≤ c2 := by omega
        clear hK hln hzl hkl hkt hwz hcell hfr Z htk
        go_wp2_with fail
        go_ret
        rw [HKL.out]
        exact ⟨_, rfl, HZ.out, hC.trans (CZ.mono fun k _ h => h ▸ hg) fun _ _ h => h⟩
end Go.Proofs.Ytokigldggkkbcaa
