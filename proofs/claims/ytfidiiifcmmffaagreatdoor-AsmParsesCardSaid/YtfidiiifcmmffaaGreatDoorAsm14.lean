/- The parts of any other instruction, filled by the program. No condition. -/
import Derived.Test.YtfidiiifcmmffaaGreatDoorAsm13
import Derived.Test.YtfidiiifcmmffaaGreatDoorAsm12
import Derived.LaidEqlPtr
set_option linter.unusedVariables false
set_option linter.unusedSimpArgs false
namespace Go.Proofs.YtfidiiifcmmffaaGreatDoor
open Go.RowKit Go.RR
/-- The fields of a kind. -/
def fsK : Kd → List Nat
  | .I | .J => [1, 4]
  | .RI => [1, 2, 4]
  | .R | .A => [1, 2, 3]
  | .U => [1, 2]
  | .B => [2, 3, 4]
  | _ => []
theorem fsK_mem {k : Kd} {f : Nat} (h : f ∈ fsK k) : f < 5 := by cases k <;> revert f <;> decide
theorem fsK_len (k : Kd) : (fsK k).length ≤ 3 := by cases k <;> decide
/-- A part read: a number or a register. -/
def pf (f : Nat) (s : Bs) : Option Int := if f = 4 then numF s else regP s
def fillC : List (Nat × Bs) → Array Value → Option (Array Value)
  | [], c => some c
  | (f, s) :: r, c => match pf f s with
    | none => none
    | some n => fillC r (c.setIfInBounds f (.int .i64 n))
theorem fillC_app (x : Nat × Bs) : ∀ (l : List (Nat × Bs)) (c : Array Value), fillC (l ++ [x]) c = (fillC l c).bind fun c => (pf x.1 x.2).map fun n => c.setIfInBounds x.1 (.int .i64 n)
  | [], c => by
    show (match pf x.1 x.2 with | none => none | some n => some _) = (some c).bind _
    cases pf x.1 x.2 <;> rfl
  | y :: l, c => by
    show (match pf y.1 y.2 with | none => none | some n => fillC (l ++ [x]) _) = (match pf y.1 y.2 with | none => none | some n => fillC l _ : Option (Array Value)).bind _
    cases pf y.1 y.2 with
    | none => rfl
    | some n => exact fillC_app x l _
def RdOk (f : Nat) (s : Bs) (n : Int) (y : Bool) : Prop := (y = true → pf f s = some n) ∧ (y = false → pf f s = none)
theorem fillC_none : ∀ (l r : List (Nat × Bs)) (c : Array Value), fillC l c = none → fillC (l ++ r) c = none
  | [], r, c, h => by cases h
  | y :: l, r, c, h => by
    show (match pf y.1 y.2 with | none => none | some n => fillC (l ++ r) _) = none
    replace h : (match pf y.1 y.2 with | none => none | some n => fillC l _ : Option (Array Value)) = none := h
    cases hp : pf y.1 y.2 with
    | none => rfl
    | some n => rw [hp] at h; exact fillC_none l r _ h
theorem fres_at {B : Nat → Nat} {w : World} {b n0 : Nat} {kind : ByteArray} {e : Nat × Nat × List Nat} (he : e ∈ fSl) (hr : fRes B kind = fSlV B e.2.1) (h : ∀ e ∈ fSl, n0 ≤ B e.2.1 ∧ Blk w (B e.2.1) (fCells b e.2.1) 103) :
    ∃ p, fRes B kind = .slice p (fFs e.2.1).length (fFs e.2.1).length ∧ ∀ j f, (fFs e.2.1)[j]? = some f → ∃ g, p = some ⟨g, 0, none⟩ ∧ n0 ≤ g ∧ g < w.heap.size ∧ w.cell? ⟨g, j, none⟩ = some (.pointer (some ⟨b, f, none⟩)) := by
  obtain ⟨h1, h2⟩ := h e he
  refine ⟨_, hr, fun j f hj => ⟨_, rfl, h1, h2.lt, h2.cell' ?_⟩⟩
  unfold fCells
  rw [List.getElem?_toArray, List.getElem?_map, hj]
  rfl
theorem fres_k {B : Nat → Nat} {w : World} {b n0 : Nat} (k : Kd) (h : ∀ e ∈ fSl, n0 ≤ B e.2.1 ∧ Blk w (B e.2.1) (fCells b e.2.1) 103) :
    ∃ p, fRes B k.s = .slice p (fsK k).length (fsK k).length ∧ ∀ j f, (fsK k)[j]? = some f → ∃ g, p = some ⟨g, 0, none⟩ ∧ n0 ≤ g ∧ g < w.heap.size ∧ w.cell? ⟨g, j, none⟩ = some (.pointer (some ⟨b, f, none⟩)) := by
  cases k
  · exact ⟨none, rfl, fun j f hj => by cases hj⟩
  · exact fres_at (e := (1, 14, [])) (by decide) rfl h
  · exact fres_at (e := (9, 21, [1, 4])) (by decide) rfl h
  · exact fres_at (e := (28, 38, [1, 2, 4])) (by decide) rfl h
  · exact fres_at (e := (39, 48, [1, 2, 3])) (by decide) rfl h
  · exact fres_at (e := (58, 65, [1, 2])) (by decide) rfl h
  · exact fres_at (e := (69, 75, [2, 3, 4])) (by decide) rfl h
  · exact fres_at (e := (17, 28, [1, 4])) (by decide) rfl h
  · exact ⟨none, rfl, fun j f hj => by cases hj⟩
  · exact ⟨none, rfl, fun j f hj => by cases hj⟩
  · exact fres_at (e := (50, 58, [1, 2, 3])) (by decide) rfl h
set_option maxHeartbeats 4000000 in
set_option maxRecDepth 100000 in
theorem fill_any (k : Kd) (l : List Bs) (b c : Nat) (lp : Option Addr) (op : Int) (T : TypeId) (w0 w : World) (hl : ∀ p ∈ l, p.length ≤ 100000) (hll : l.length ≤ 100000) (L : Lb w0) (hC0 : Chg NoB w0 w) (hb0 : w0.heap.size ≤ b)
    (hb : Blk w b #[.int .i64 op, .int .i64 0, .int .i64 0, .int .i64 0, .int .i64 0] T) (hlp : ∀ j p, l[j]? = some p → ∃ g, lp = some ⟨g, 0, none⟩ ∧ g ≠ b ∧ g < w.heap.size ∧ w.cell? ⟨g, j, none⟩ = some (.string ⟨p.toArray⟩)) :
    Calls Tryz.prog 32 #[.pointer (some ⟨b, 0, none⟩), .string k.s, .slice lp l.length c] w (RetV fun v w' => Chg (· = b) w w' ∧
      v = .bool (decide ((fsK k).length = l.length) && (fillC ((fsK k).zip l) #[.int .i64 op, .int .i64 0, .int .i64 0, .int .i64 0, .int .i64 0]).isSome) ∧
      ∀ cs, (fsK k).length = l.length → fillC ((fsK k).zip l) #[.int .i64 op, .int .i64 0, .int .i64 0, .int .i64 0, .int .i64 0] = some cs → Blk w' b cs T) := by
  have HL := Lib.hid L
  have HC0 := Lib.hid hC0
  have HB0 := Lib.hid hb0
  have HB := Lib.hid hb
  have HLP := Lib.hid hlp
  have HLL := Lib.hid hl
  obtain ⟨m, hm⟩ : ∃ m, l.length = m := ⟨_, rfl⟩
  rw [hm] at hll
  obtain ⟨n, hn⟩ : ∃ n, (fsK k).length = n := ⟨_, rfl⟩
  have hn3 : n ≤ 3 := by rw [← hn]; exact fsK_len k
  rw [hm, hn]
  have HM := Lib.hid hm
  have HN := Lib.hid hn
  clear hC0 hb0 hb hlp hl L hm hn
  obtain ⟨c0, hc0⟩ : ∃ c0, #[Value.int .i64 op, .int .i64 0, .int .i64 0, .int .i64 0, .int .i64 0] = c0 := ⟨_, rfl⟩
  rw [hc0] at HB ⊢
  obtain ⟨Z, hZ⟩ : ∃ Z, (fsK k).zip l = Z := ⟨_, rfl⟩
  rw [hZ]
  have HZ := Lib.hid hZ
  have HC0S : Hid (c0.size = 5) := Lib.hid (by rw [← hc0]; rfl)
  clear hc0 hZ
  go_enter Tryz.func32, Tryz.ntmps32
  go_wp2_with fail
  refine fill_region (ops := _) (by unfold IsFill; kernel_rfl) (b := b) (kind := k.s) (by rfl) (by rfl) (by rfl) ?_
  rintro ⟨t, df⟩ w1 B hdf hsz hkeep h7 hC1 hBl
  obtain ⟨p, hp1, hp2⟩ := fres_k (w := w1) (b := b) (n0 := w.heap.size) k hBl
  rw [hp1, HN.out] at h7
  obtain ⟨f, rfl, hf⟩ := arr_111 hsz
  have k0 : f 0 = .pointer (some ⟨b, 0, none⟩) := (hf 0).symm.trans (hkeep 0 (by omega))
  have k1 : f 1 = .string k.s := (hf 1).symm.trans (hkeep 1 (by omega))
  have k2 : f 2 = .slice lp m c := (hf 2).symm.trans (hkeep 2 (by omega))
  have k6 : f 6 = .bool false := (hf 6).symm.trans (hkeep 6 (by omega))
  have k7 : f 7 = .slice p n n := (hf 7).symm.trans h7
  replace hdf : df = [] := hdf
  subst hdf
  rw [k0, k1, k2, k6, k7]
  have HP := Lib.hid hp2
  have HC1 := Lib.hid hC1
  clear hkeep hC1 hBl hp1 hp2 B hf k0 k1 k2 k6 k7 h7 hsz
  rename_i Q' K hK
  show K _ _
  refine hK _ _ ?_
  clear hK
  by_cases hnm : n = m
  · subst hnm
    go_wp2_with fail
    have HZL : Hid (Z.length = n) := Lib.hid (by rw [← HZ.out, List.length_zip, HN.out, HM.out]; omega)
    go_loopg [86] n (fun g ix wr => ∃ (j : Nat) (cc : Array Value), j + g = n ∧ ix = .int .i64 j ∧ cc.size = 5 ∧ Blk wr b cc T ∧ fillC (Z.take j) c0 = some cc ∧ Chg (· = b) w1 wr)
    case atStart => exact ⟨0, c0, Nat.zero_add _, rfl, HC0S.out, HC1.out.blk0 HB.out, rfl, Chg.refl _ _⟩
    case round =>
      obtain ⟨j, cc, hj, rfl, hcs, hcb, hfc, hC⟩ := hrel
      have HJ := Lib.hid hj
      have HCS := Lib.hid hcs
      have HCB := Lib.hid hcb
      have HFC := Lib.hid hfc
      have HC := Lib.hid hC
      have hjn : j ≤ n := by omega
      clear hj hcs hcb hfc hC
      by_cases hlt : j < n
      · obtain ⟨fj, hfj⟩ : ∃ fj, (fsK k)[j]? = some fj := ⟨_, List.getElem?_eq_getElem (by rw [HN.out]; exact hlt)⟩
        obtain ⟨s, hs⟩ : ∃ s, l[j]? = some s := ⟨_, List.getElem?_eq_getElem (by rw [HM.out]; exact hlt)⟩
        obtain ⟨g, rfl, hg1, hg2, hg3⟩ := HP.out j fj hfj
        obtain ⟨lg, rfl, hl1, hl2, hl3⟩ := HLP.out j s hs
        have hgb : g ≠ b := by have := HB.out.lt; omega
        have x1 : wr.cell? ⟨g, j, none⟩ = some (.pointer (some ⟨b, fj, none⟩)) := HC.out.cell hg3 hgb
        have x2 : wr.cell? ⟨lg, j, none⟩ = some (.string ⟨s.toArray⟩) := HC.out.cell (HC1.out.cell hl3 id) hl1
        have hf5 : fj < 5 := fsK_mem (List.mem_of_getElem? hfj)
        obtain ⟨old, hold⟩ : ∃ o, cc[fj]? = some o := ⟨_, Array.getElem?_eq_getElem (by rw [HCS.out]; exact hf5)⟩
        have X3 := Lib.hid (HCB.out.cell' hold)
        have HSL := Lib.hid (HLL.out s (List.mem_of_getElem? hs))
        have HLW : Hid (Lb wr) := Lib.hid (HL.out.chg0 ((HC0.out.step HC1.out).trans HC.out (fun k h1 h2 => by have := HB0.out; omega)))
        have hzj : Z[j]? = some (fj, s) := by rw [← HZ.out, List.getElem?_zip_eq_some]; exact ⟨hfj, hs⟩
        have htk : Z.take (j + 1) = Z.take j ++ [(fj, s)] := by rw [List.take_add_one, hzj]; rfl
        have HSF : Hid (∀ n0, pf fj s = some n0 → fillC (Z.take (j + 1)) c0 = some (cc.setIfInBounds fj (.int .i64 n0))) := Lib.hid fun n0 h => by
          rw [htk, fillC_app, HFC.out, Option.bind_some, h]; rfl
        have HNF : Hid (pf fj s = none → fillC Z c0 = none) := Lib.hid fun h => by
          rw [← List.take_append_drop (j + 1) Z]
          refine fillC_none _ _ _ ?_
          rw [htk, fillC_app, HFC.out, Option.bind_some, h]; rfl
        have k0 : (0 : Int) ≤ j := by omega
        have k1 : (j : Int) < n := by omega
        clear hfj hs hg1 hg2 hg3 hl1 hl2 hl3 hold hzj htk hgb
        by_cases h4 : fj = 4
        · have HF4 := Lib.hid h4
          obtain rfl : 4 = fj := h4.symm
          clear h4
          have eqp := run_eql_ptr_same (P := Tryz.prog) (tp := 103) wr ⟨b, 4, none⟩ rfl rfl
          go_wp2_with fail
          with_reducible refine (number_any s _ HSL.out (HLW.out)).mono ?_
          rintro e w2 ⟨rfl, C2⟩
          obtain ⟨n0, y, hv, hy1, hy2⟩ : ∃ (n0 : Int) (y : Bool), numV s = .tuple #[.int .i64 n0, .bool y] ∧ (y = true → numF s = some n0) ∧ (y = false → numF s = none) := by
            unfold numV
            cases numF s with
            | none => exact ⟨_, _, rfl, fun h => (by cases h), fun _ => rfl⟩
            | some q => exact ⟨_, _, rfl, fun _ => rfl, fun h => (by cases h)⟩
          rw [hv]
          have HY : Hid (RdOk 4 s n0 y) := Lib.hid ⟨fun h => by unfold pf; rw [if_pos rfl]; exact hy1 h, fun h => by unfold pf; rw [if_pos rfl]; exact hy2 h⟩
          clear hv hy1 hy2
          have HC2 := Lib.hid C2
          have x3 : w2.cell? ⟨b, 4, none⟩ = some old := C2.cell X3.out id
          have fz : w2.frozen? ⟨b, 4, none⟩ = false := (C2.blk0 HCB.out).frozen 4
          have hbl : b < w2.heap.size := (C2.blk0 HCB.out).lt
          have hbr : b < wr.heap.size := HCB.out.lt
          clear C2
          cases y
          · go_wp2_with fail
            go_ret
            refine ⟨_, rfl, ((HC1.out.mono (S' := (· = b)) fun _ _ h => h.elim).trans HC.out (fun _ _ h => h)).then0 HC2.out, ?_, ?_⟩
            · rw [HNF.out (HY.out.2 rfl)]; simp
            · intro cs hcs
              rw [HNF.out (HY.out.2 rfl)] at hcs
              cases hcs
          · go_wp2_with fail
            go_roundg (n - (j + 1))
            case measure => have := HJ.out; omega
            case rel => exact ⟨j + 1, cc.setIfInBounds 4 (.int .i64 n0), by have := HJ.out; omega, by go_num, by rw [Array.size_setIfInBounds]; exact HCS.out, (HC2.out.blk0 HCB.out).set 4 _, HSF.out n0 (HY.out.1 rfl), (HC.out.then0 HC2.out).setCell (.inl rfl) _⟩
        · have HF4 := Lib.hid h4
          have q4 : (fj == 4) = false := by rw [beq_eq_false_iff_ne]; exact h4
          have eqp := run_eql_ptr_other (P := Tryz.prog) (tp := 103) (a := ⟨b, fj, none⟩) (b := ⟨b, 4, none⟩) wr rfl rfl (by decide) (fun e => h4 (by injection e)) HCB.out HCB.out
          clear h4 q4
          go_wp2_with fail
          with_reducible refine (register_any s _ HSL.out (HLW.out)).mono ?_
          rintro e w2 ⟨v2, rfl, ⟨n0, rfl, hn0⟩, C2⟩
          obtain ⟨y, hy⟩ : ∃ y, (regP s).isSome = y := ⟨_, rfl⟩
          rw [hy]
          have HY : Hid (RdOk fj s n0 y) := Lib.hid ⟨fun h => by
            unfold pf; rw [if_neg HF4.out]
            rw [h] at hy
            obtain ⟨q, hq⟩ := Option.isSome_iff_exists.1 hy
            rw [hn0 q hq]; exact hq, fun h => by
            unfold pf; rw [if_neg HF4.out]
            rw [h] at hy
            exact Option.isNone_iff_eq_none.1 (by cases hr : regP s with | none => rfl | some q => rw [hr] at hy; cases hy)⟩
          clear hy hn0
          have HC2 := Lib.hid C2
          have x3 : w2.cell? ⟨b, fj, none⟩ = some old := C2.cell X3.out id
          have fz : w2.frozen? ⟨b, fj, none⟩ = false := (C2.blk0 HCB.out).frozen fj
          have hbl : b < w2.heap.size := (C2.blk0 HCB.out).lt
          have hbr : b < wr.heap.size := HCB.out.lt
          clear C2
          cases y
          · go_wp2_with fail
            go_ret
            refine ⟨_, rfl, ((HC1.out.mono (S' := (· = b)) fun _ _ h => h.elim).trans HC.out (fun _ _ h => h)).then0 HC2.out, ?_, ?_⟩
            · rw [HNF.out (HY.out.2 rfl)]; simp
            · intro cs hcs
              rw [HNF.out (HY.out.2 rfl)] at hcs
              cases hcs
          · go_wp2_with fail
            go_roundg (n - (j + 1))
            case measure => have := HJ.out; omega
            case rel => exact ⟨j + 1, cc.setIfInBounds fj (.int .i64 n0), by have := HJ.out; omega, by go_num, by rw [Array.size_setIfInBounds]; exact HCS.out, (HC2.out.blk0 HCB.out).set fj _, HSF.out n0 (HY.out.1 rfl), (HC.out.then0 HC2.out).setCell (.inl rfl) _⟩
      · obtain rfl : n = j := by omega
        have HFZ : Hid (fillC Z c0 = some cc) := Lib.hid (by have := HFC.out; rw [List.take_of_length_le (by rw [HZL.out]; exact Nat.le_refl _)] at this; exact this)
        go_wp2_with fail
        go_ret
        refine ⟨_, rfl, (HC1.out.mono (S' := (· = b)) fun _ _ h => h.elim).trans HC.out (fun _ _ h => h), by rw [HFZ.out]; simp, fun cs h => ?_⟩
        rw [HFZ.out] at h
        cases h
        exact HCB.out
  · have q1 : ((n : Int) != (m : Int)) = true := by rw [bne_iff_ne]; omega
    have q2 : (n != m) = true := by rw [bne_iff_ne]; exact hnm
    have HNM : Hid (decide (n = m) = false) := Lib.hid (decide_eq_false hnm)
    have HNM2 := Lib.hid hnm
    clear hnm
    go_wp2_with fail
    go_ret
    exact ⟨_, rfl, HC1.out.mono (fun _ _ h => h.elim), by rw [HNM.out]; rfl, fun cs h => absurd h HNM2.out⟩
end Go.Proofs.YtfidiiifcmmffaaGreatDoor
