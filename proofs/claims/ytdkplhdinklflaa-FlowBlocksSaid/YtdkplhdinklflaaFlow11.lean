/- Which registers a program may read unwritten, by the program. No condition. -/
import Derived.Test.YtdkplhdinklflaaFlow10
set_option linter.unusedVariables false
set_option linter.unusedSimpArgs false
set_option linter.unusedSectionVars false
namespace Go.Proofs.Ytdkplhdinklflaa
open Go.RowKit Go.RR

theorem U16Info : (Try.prog.info? 40).map (fun i => (i.zero, i.size, i.bytes)) = some (some (.int .u16 0), 1, 2) := by kernel_rfl
theorem made_u16s (n : Nat) : madeCells (Value.int .u16 0).cells (n * 1) = u16s (List.replicate n 0) := by
  rw [Nat.mul_one]
  apply Array.ext_getElem?
  intro k
  unfold madeCells u16s
  by_cases hk : k < n
  · simp [Value.cells, hk, Nat.mod_one]
  · simp [hk]
theorem bits_and16 {a b : Nat} (ha : a < 65536) (hb : b < 65536) : bits .and .u16 (a : Int) (b : Int) = ((a &&& b : Nat) : Int) :=
  (bits_nat .u16 16 (by decide) (fun m h0 h1 => by rw [IntKind.wrap_u16]; omega) a b ha hb).1
def outStep (rd : Nat → Nat) (S : St) (out p : Nat) : Nat := if mk S.2 p = true then out ||| (op S p &&& rd p) else out

theorem WfS.zero (N : Nat) : WfS N (List.replicate N 0, List.replicate N false) := by
  have hop : ∀ q, op (List.replicate N 0, List.replicate N false) q = 0 := fun q => by
    unfold op
    rw [List.getD_eq_getElem?_getD, List.getElem?_replicate]
    split <;> rfl
  exact ⟨by simp, by simp, fun q => by rw [hop]; exact ⟨by omega, fun _ => rfl⟩⟩
set_option maxHeartbeats 4000000 in
set_option maxRecDepth 100000 in
theorem fraw_any (S0 : Nat → Prop) (v : Value) (l : List In) (w : World) (hs : Sl w S0 5 v l.length (icells l)) (hl : l.length ≤ 40) (hr : ∀ i ∈ l, rightB i = true) :
    Calls Try.prog 51 #[v] w (RetW (.int .u16 (rawF (nxN l) l.length (wrN l) (rdN l) : Nat)) fun w' => Chg NoB w w') := by
  obtain ⟨i0, hi0, hz0, hz1, hz2⟩ := info_parts BoolInfo
  obtain ⟨j0, hj0, jz0, jz1, jz2⟩ := info_parts U16Info
  have hmk : ∀ W, (Instr.makeSlice 53 (.int .i64 l.length) (.int .i64 l.length)).run Try.prog W = .ok (.slice (some ⟨W.heap.size, 0, none⟩) l.length l.length) (W.alloc (.cells (bools (List.replicate l.length false)) 4)) := by
    intro W
    have h := run_make (P := Try.prog) W 53 4 i0 _ Try.underlying53 hi0 hz0 .i64 .i64 l.length l.length (by omega) (by omega) (by rw [hz2]; omega) (by omega)
    rw [hz1, Int.toNat_natCast, made_bools] at h
    exact h
  have hmu : ∀ W, (Instr.makeSlice 95 (.int .i64 l.length) (.int .i64 l.length)).run Try.prog W = .ok (.slice (some ⟨W.heap.size, 0, none⟩) l.length l.length) (W.alloc (.cells (u16s (List.replicate l.length 0)) 40)) := by
    intro W
    have h := run_make (P := Try.prog) W 95 40 j0 _ Try.underlying95 hj0 jz0 .i64 .i64 l.length l.length (by omega) (by omega) (by rw [jz2]; omega) (by omega)
    rw [jz1, Int.toNat_natCast, made_u16s] at h
    exact h
  obtain ⟨pv, cv, rfl⟩ := hs.form
  have hs' := hs.monoIn (S' := fun k => k < w.heap.size) fun k h _ => h
  have HS := Lib.hid hs'
  have HR := Lib.hid hr
  clear hs hs' hr
  go_enter Try.func51, Try.ntmps51
  go_wp2_with fail
  go_region_held3 (fun w' => True) (trivial) (fail)
  ·
    have e1 : (w.alloc (.cells (u16s (List.replicate l.length 0)) 40)).heap.size = w.heap.size + 1 := by simp
    have e2 : ((w.alloc (.cells (u16s (List.replicate l.length 0)) 40)).alloc (.cells (bools (List.replicate l.length false)) 4)).heap.size = w.heap.size + 1 + 1 := by simp
    have A1 := (((Chg.refl NoB w).alloc (.cells (u16s (List.replicate l.length 0)) 40)).alloc (.cells (bools (List.replicate l.length false)) 4)).alloc (.cells #[.slice pv l.length cv, .slice (some ⟨w.heap.size, 0, none⟩) l.length l.length, .slice (some ⟨w.heap.size + 1, 0, none⟩) l.length l.length] 97)
    have P1 := (((Blk.new w (u16s (List.replicate l.length 0)) 40).alloc (.cells (bools (List.replicate l.length false)) 4)).alloc (.cells #[.slice pv l.length cv, .slice (some ⟨w.heap.size, 0, none⟩) l.length l.length, .slice (some ⟨w.heap.size + 1, 0, none⟩) l.length l.length] 97)).drew
    have P2 := ((Blk.new (w.alloc (.cells (u16s (List.replicate l.length 0)) 40)) (bools (List.replicate l.length false)) 4).alloc (.cells #[.slice pv l.length cv, .slice (some ⟨w.heap.size, 0, none⟩) l.length l.length, .slice (some ⟨w.heap.size + 1, 0, none⟩) l.length l.length] 97)).drew
    have P3 := (Blk.new ((w.alloc (.cells (u16s (List.replicate l.length 0)) 40)).alloc (.cells (bools (List.replicate l.length false)) 4)) #[.slice pv l.length cv, .slice (some ⟨w.heap.size, 0, none⟩) l.length l.length, .slice (some ⟨w.heap.size + 1, 0, none⟩) l.length l.length] 97).drew
    rw [e1] at P2
    rw [e2] at P3
    have HP1 := Lib.hid P1
    have HP2 := Lib.hid P2
    have HP3 := Lib.hid P3
    have HA1 := Lib.hid A1.drew
    have HWF := Lib.hid (WfS.zero l.length)
    clear e1 e2 A1 P1 P2 P3 hmk hmu
    go_wp2_with fail
    refine (come_any HR.out hl HS.out (b := w.heap.size + 1 + 1) (g1 := w.heap.size) (g2 := (w.heap.size + 1)) (by omega) (by omega) (by omega) (by omega) (by omega) (by omega) (l.length * 65536 + 1) (List.replicate l.length 0, List.replicate l.length false) 0 65534 _ HP3.out HP1.out HP2.out (HA1.out.mono fun _ _ h => h.elim) (by omega) (by omega) HWF.out (by omega)).mono ?_
    rintro e w1 ⟨rfl, Q1, Q2, C1⟩
    have hraw := com_raw (nx := nxN l) (N := l.length) (wr := wrN l) (rd := rdN l) (fun p hp => nxN_le hp) (wrN_lt l)
    obtain ⟨S, hS⟩ : ∃ S, com (nxN l) l.length (wrN l) (l.length * 65536 + 1) (List.replicate l.length 0, List.replicate l.length false) 0 65534 = S := ⟨_, rfl⟩
    have hwf : WfS l.length S := by
      rw [← hS]
      exact (com_of (nx := nxN l) (N := l.length) (wrN_lt l) (fun _ _ => True) (fun _ _ _ _ _ _ _ => trivial) (l.length * 65536 + 1) _ 0 65534 HWF.out (by omega) (by omega)).1.wf
    rw [hS] at Q1 Q2 hraw
    have HRAW := Lib.hid hraw
    have HWS := Lib.hid hwf
    have HQ1 := Lib.hid Q1
    have HQ2 := Lib.hid Q2
    have HQ3 := Lib.hid (C1.blk HP3.out (fun e => by rcases e with e | e <;> (have e : w.heap.size + 1 + 1 = _ := e; omega)))
    have HC1 := Lib.hid (HA1.out.trans C1 fun q hq e => by rcases e with e | e <;> (have e : q = _ := e; omega))
    clear Q1 Q2 C1 hraw hwf hS
    go_wp2_with fail
    go_loopg [4, 20] l.length (fun gk ov ix wr => ∃ j o : Nat, j + gk = l.length ∧ ix = .int .i64 j ∧ ov = .int .u16 o ∧ o < 65536 ∧ (List.range j).foldl (outStep (rdN l) S) 0 = o ∧ Chg NoB w1 wr)
    case atStart => exact ⟨0, 0, by omega, rfl, rfl, by omega, rfl, Chg.refl _ _⟩
    case round =>
      obtain ⟨j, o, hj, rfl, rfl, ho, hfo, hC⟩ := hrel
      rename World => wr
      have HJ := Lib.hid hj
      have HFO := Lib.hid hfo
      have HC := Lib.hid hC
      have hjl : j ≤ l.length := by omega
      have hnx : (List.range (j + 1)).foldl (outStep (rdN l) S) 0 = outStep (rdN l) S o j := by rw [List.range_succ, List.foldl_append, hfo]; rfl
      have HNX := Lib.hid hnx
      clear hj hfo hC hnx
      by_cases hlt : j < l.length
      · obtain ⟨i, hi⟩ : ∃ i, l[j]? = some i := ⟨l[j], by simp [hlt]⟩
        have HHI := Lib.hid hi
        have hSr := HS.out.chg0 (HC1.out.step HC.out)
        obtain ⟨pi, ci, hpi, hIn⟩ := InsAt.of hSr (by omega)
        cases hpi
        obtain ⟨gi, oi, rfl, hgi, c0, c1, c2, c3, c4⟩ := hIn.at hi
        have hIcap := hIn.cap
        have q3 := HC.out.blk0 HQ3.out
        have b1 := q3.cell' (i := 1) (v := .slice (some ⟨w.heap.size, 0, none⟩) l.length l.length) (by rfl)
        have b2 := q3.cell' (i := 2) (v := .slice (some ⟨(w.heap.size + 1), 0, none⟩) l.length l.length) (by rfl)
        have a1 := (HC.out.blk0 HQ1.out).cell' (i := j) (u16s_at (by rw [HWS.out.1]; exact hlt))
        have a2 := (HC.out.blk0 HQ2.out).cell' (i := j) (bools_at (by rw [HWS.out.2.1]; exact hlt))
        have hz1 := (HC.out.blk0 HQ1.out).lt
        have hz2 := (HC.out.blk0 HQ2.out).lt
        have hz3 := q3.lt
        have j0' : (0 : Int) ≤ j := by omega
        have j1' : (j : Int) < l.length := by omega
        have hop := (HWS.out.2.2 j).1
        have A0 := (Chg.refl NoB wr).alloc (.cells #[.int .i64 i.op, .int .i64 i.rd, .int .i64 i.rs, .int .i64 i.rt, .int .i64 i.im] 32)
        have hrdi := rdN_at hi
        have HRD := Lib.hid hrdi
        clear hi hSr hIn q3 hrdi
        cases hm : mk S.2 j
        · rw [hm] at a2
          have he : outStep (rdN l) S o j = o := by unfold outStep; rw [hm, if_neg (by simp)]
          have HE := Lib.hid he
          have HA0 := Lib.hid A0
          clear hm he A0
          go_wp2_with fail
          go_roundg (l.length - (j + 1))
          case measure => have := HJ.out; omega
          case rel => exact ⟨j + 1, o, by have := HJ.out; omega, by go_num, rfl, ho, by rw [HNX.out, HE.out], HC.out.step HA0.out⟩
        · rw [hm] at a2
          have he : outStep (rdN l) S o j = o ||| (op S j &&& readsF i) := by unfold outStep; rw [hm, if_pos rfl, HRD.out]
          have HE := Lib.hid he
          have kand := bits_and16 hop (readsF_lt i)
          have hand : op S j &&& readsF i < 65536 := Nat.lt_of_le_of_lt Nat.and_le_left hop
          have kor := bits_or16 o (op S j &&& readsF i) ho hand
          have hor := or_lt16 ho hand
          have B0 := Blk.new wr #[.int .i64 i.op, .int .i64 i.rd, .int .i64 i.rs, .int .i64 i.rt, .int .i64 i.im] 32
          have b1' := A0.cell b1 id
          have a1' := A0.cell a1 id
          have hss : ∀ w', Chg NoB (wr.alloc (.cells #[.int .i64 i.op, .int .i64 i.rd, .int .i64 i.rs, .int .i64 i.rt, .int .i64 i.im] 32)) w' → w'.cell? ⟨w.heap.size + 1 + 1, 1, none⟩ = some (.slice (some ⟨w.heap.size, 0, none⟩) l.length l.length) ∧ w'.cell? ⟨w.heap.size, j, none⟩ = some (.int .u16 (op S j)) ∧ w'.cell? ⟨wr.heap.size, 0, none⟩ = some (.int .i64 i.op) ∧ w'.cell? ⟨wr.heap.size, 1, none⟩ = some (.int .i64 i.rd) ∧ w'.cell? ⟨wr.heap.size, 2, none⟩ = some (.int .i64 i.rs) ∧ w'.cell? ⟨wr.heap.size, 3, none⟩ = some (.int .i64 i.rt) ∧ w'.cell? ⟨wr.heap.size, 4, none⟩ = some (.int .i64 i.im) := fun w' c => by
            have B := c.blk0 B0
            exact ⟨c.cell b1' id, c.cell a1' id, B.cell' (i := 0) rfl, B.cell' (i := 1) rfl, B.cell' (i := 2) rfl, B.cell' (i := 3) rfl, B.cell' (i := 4) rfl⟩
          have HSS := Lib.hid hss
          have HA0 := Lib.hid A0
          clear hm he A0 B0 b1' a1' hss
          go_wp2_with fail
          clear b1 b2 a1 a2 c0 c1 c2 c3 c4
          refine wp_region_take 12 [0, 1, 2, 3, 4, 5, 6, 7, 8] [9, 10, 11] (fun w' => w'.cell? ⟨w.heap.size + 1 + 1, 1, none⟩ = some (.slice (some ⟨w.heap.size, 0, none⟩) l.length l.length) ∧ w'.cell? ⟨w.heap.size, j, none⟩ = some (.int .u16 (op S j)) ∧ w'.cell? ⟨wr.heap.size, 0, none⟩ = some (.int .i64 i.op) ∧ w'.cell? ⟨wr.heap.size, 1, none⟩ = some (.int .i64 i.rd) ∧ w'.cell? ⟨wr.heap.size, 2, none⟩ = some (.int .i64 i.rs) ∧ w'.cell? ⟨wr.heap.size, 3, none⟩ = some (.int .i64 i.rt) ∧ w'.cell? ⟨wr.heap.size, 4, none⟩ = some (.int .i64 i.im)) (by kernel_rfl) (by kernel_rfl) (fun _ _ _ _ _ h => h) (HSS.out _ ((Chg.refl NoB _).drew)) ?_
          simp only [pickOps_nil, pickOps_cons, Option.getD_some, List.getElem?_toArray, List.getElem?_cons_zero, List.getElem?_cons_succ, List.cons_append, List.nil_append, List.drop_succ_cons, List.drop_zero]
          repeat
            refine wpTake_cons' rfl ?_
            apply Exists.intro
            refine ⟨fun wS hS => ?_, ?_⟩
            · try dsimp only at hS
              obtain ⟨b1, a1, x0, x1, x2, x3, x4⟩ := hS
              go_simp
              try rfl
            simp only [Act.put, List.setIfInBounds_toArray, List.set_cons_zero, List.set_cons_succ]
          refine wpTake_nil ?_
          refine wpForce_cons rfl (fun K hK => ?_)
          go_simp
          refine (freads_any i _).mono ?_
          rintro e w5 ⟨rfl, C5'⟩
          have C5 := Lib.hid (((Chg.refl NoB _).drew).step C5')
          refine hK _ _ (HSS.out _ C5.out) ?_
          clear hK K C5'
          refine wpForce_cons rfl (fun K hK => ?_)
          go_simp
          refine hK _ _ (HSS.out _ C5.out) ?_
          clear hK K
          refine wpForce_cons rfl (fun K hK => ?_)
          go_simp
          refine hK _ _ (HSS.out _ C5.out) ?_
          clear hK K
          refine wpForce_nil ?_
          go_wp2_with fail
          go_roundg (l.length - (j + 1))
          case measure => have := HJ.out; omega
          case rel => exact ⟨j + 1, _, by have := HJ.out; omega, by go_num, rfl, hor, by rw [HNX.out, HE.out], HC.out.step (HA0.out.step C5.out)⟩
      · obtain rfl : j = l.length := by omega
        have he : rawF (nxN l) l.length (wrN l) (rdN l) = o := by
          rw [← HRAW.out, ← HFO.out]
          rfl
        have HE := Lib.hid he
        clear he
        go_wp2_with fail
        go_ret
        exact ⟨by rw [HE.out]; rfl, HC1.out.step HC.out⟩
  ·
    have e1 : (w.alloc (.cells (bools (List.replicate l.length false)) 4)).heap.size = w.heap.size + 1 := by simp
    have e2 : ((w.alloc (.cells (bools (List.replicate l.length false)) 4)).alloc (.cells (u16s (List.replicate l.length 0)) 40)).heap.size = w.heap.size + 1 + 1 := by simp
    have A1 := (((Chg.refl NoB w).alloc (.cells (bools (List.replicate l.length false)) 4)).alloc (.cells (u16s (List.replicate l.length 0)) 40)).alloc (.cells #[.slice pv l.length cv, .slice (some ⟨w.heap.size + 1, 0, none⟩) l.length l.length, .slice (some ⟨w.heap.size, 0, none⟩) l.length l.length] 97)
    have P1 := (((Blk.new w (bools (List.replicate l.length false)) 4).alloc (.cells (u16s (List.replicate l.length 0)) 40)).alloc (.cells #[.slice pv l.length cv, .slice (some ⟨w.heap.size + 1, 0, none⟩) l.length l.length, .slice (some ⟨w.heap.size, 0, none⟩) l.length l.length] 97)).drew
    have P2 := ((Blk.new (w.alloc (.cells (bools (List.replicate l.length false)) 4)) (u16s (List.replicate l.length 0)) 40).alloc (.cells #[.slice pv l.length cv, .slice (some ⟨w.heap.size + 1, 0, none⟩) l.length l.length, .slice (some ⟨w.heap.size, 0, none⟩) l.length l.length] 97)).drew
    have P3 := (Blk.new ((w.alloc (.cells (bools (List.replicate l.length false)) 4)).alloc (.cells (u16s (List.replicate l.length 0)) 40)) #[.slice pv l.length cv, .slice (some ⟨w.heap.size + 1, 0, none⟩) l.length l.length, .slice (some ⟨w.heap.size, 0, none⟩) l.length l.length] 97).drew
    rw [e1] at P2
    rw [e2] at P3
    have HP1 := Lib.hid P1
    have HP2 := Lib.hid P2
    have HP3 := Lib.hid P3
    have HA1 := Lib.hid A1.drew
    have HWF := Lib.hid (WfS.zero l.length)
    clear e1 e2 A1 P1 P2 P3 hmk hmu
    go_wp2_with fail
    refine (come_any HR.out hl HS.out (b := w.heap.size + 1 + 1) (g1 := (w.heap.size + 1)) (g2 := w.heap.size) (by omega) (by omega) (by omega) (by omega) (by omega) (by omega) (l.length * 65536 + 1) (List.replicate l.length 0, List.replicate l.length false) 0 65534 _ HP3.out HP2.out HP1.out (HA1.out.mono fun _ _ h => h.elim) (by omega) (by omega) HWF.out (by omega)).mono ?_
    rintro e w1 ⟨rfl, Q1, Q2, C1⟩
    have hraw := com_raw (nx := nxN l) (N := l.length) (wr := wrN l) (rd := rdN l) (fun p hp => nxN_le hp) (wrN_lt l)
    obtain ⟨S, hS⟩ : ∃ S, com (nxN l) l.length (wrN l) (l.length * 65536 + 1) (List.replicate l.length 0, List.replicate l.length false) 0 65534 = S := ⟨_, rfl⟩
    have hwf : WfS l.length S := by
      rw [← hS]
      exact (com_of (nx := nxN l) (N := l.length) (wrN_lt l) (fun _ _ => True) (fun _ _ _ _ _ _ _ => trivial) (l.length * 65536 + 1) _ 0 65534 HWF.out (by omega) (by omega)).1.wf
    rw [hS] at Q1 Q2 hraw
    have HRAW := Lib.hid hraw
    have HWS := Lib.hid hwf
    have HQ1 := Lib.hid Q1
    have HQ2 := Lib.hid Q2
    have HQ3 := Lib.hid (C1.blk HP3.out (fun e => by rcases e with e | e <;> (have e : w.heap.size + 1 + 1 = _ := e; omega)))
    have HC1 := Lib.hid (HA1.out.trans C1 fun q hq e => by rcases e with e | e <;> (have e : q = _ := e; omega))
    clear Q1 Q2 C1 hraw hwf hS
    go_wp2_with fail
    go_loopg [4, 20] l.length (fun gk ov ix wr => ∃ j o : Nat, j + gk = l.length ∧ ix = .int .i64 j ∧ ov = .int .u16 o ∧ o < 65536 ∧ (List.range j).foldl (outStep (rdN l) S) 0 = o ∧ Chg NoB w1 wr)
    case atStart => exact ⟨0, 0, by omega, rfl, rfl, by omega, rfl, Chg.refl _ _⟩
    case round =>
      obtain ⟨j, o, hj, rfl, rfl, ho, hfo, hC⟩ := hrel
      rename World => wr
      have HJ := Lib.hid hj
      have HFO := Lib.hid hfo
      have HC := Lib.hid hC
      have hjl : j ≤ l.length := by omega
      have hnx : (List.range (j + 1)).foldl (outStep (rdN l) S) 0 = outStep (rdN l) S o j := by rw [List.range_succ, List.foldl_append, hfo]; rfl
      have HNX := Lib.hid hnx
      clear hj hfo hC hnx
      by_cases hlt : j < l.length
      · obtain ⟨i, hi⟩ : ∃ i, l[j]? = some i := ⟨l[j], by simp [hlt]⟩
        have HHI := Lib.hid hi
        have hSr := HS.out.chg0 (HC1.out.step HC.out)
        obtain ⟨pi, ci, hpi, hIn⟩ := InsAt.of hSr (by omega)
        cases hpi
        obtain ⟨gi, oi, rfl, hgi, c0, c1, c2, c3, c4⟩ := hIn.at hi
        have hIcap := hIn.cap
        have q3 := HC.out.blk0 HQ3.out
        have b1 := q3.cell' (i := 1) (v := .slice (some ⟨(w.heap.size + 1), 0, none⟩) l.length l.length) (by rfl)
        have b2 := q3.cell' (i := 2) (v := .slice (some ⟨w.heap.size, 0, none⟩) l.length l.length) (by rfl)
        have a1 := (HC.out.blk0 HQ1.out).cell' (i := j) (u16s_at (by rw [HWS.out.1]; exact hlt))
        have a2 := (HC.out.blk0 HQ2.out).cell' (i := j) (bools_at (by rw [HWS.out.2.1]; exact hlt))
        have hz1 := (HC.out.blk0 HQ1.out).lt
        have hz2 := (HC.out.blk0 HQ2.out).lt
        have hz3 := q3.lt
        have j0' : (0 : Int) ≤ j := by omega
        have j1' : (j : Int) < l.length := by omega
        have hop := (HWS.out.2.2 j).1
        have A0 := (Chg.refl NoB wr).alloc (.cells #[.int .i64 i.op, .int .i64 i.rd, .int .i64 i.rs, .int .i64 i.rt, .int .i64 i.im] 32)
        have hrdi := rdN_at hi
        have HRD := Lib.hid hrdi
        clear hi hSr hIn q3 hrdi
        cases hm : mk S.2 j
        · rw [hm] at a2
          have he : outStep (rdN l) S o j = o := by unfold outStep; rw [hm, if_neg (by simp)]
          have HE := Lib.hid he
          have HA0 := Lib.hid A0
          clear hm he A0
          go_wp2_with fail
          go_roundg (l.length - (j + 1))
          case measure => have := HJ.out; omega
          case rel => exact ⟨j + 1, o, by have := HJ.out; omega, by go_num, rfl, ho, by rw [HNX.out, HE.out], HC.out.step HA0.out⟩
        · rw [hm] at a2
          have he : outStep (rdN l) S o j = o ||| (op S j &&& readsF i) := by unfold outStep; rw [hm, if_pos rfl, HRD.out]
          have HE := Lib.hid he
          have kand := bits_and16 hop (readsF_lt i)
          have hand : op S j &&& readsF i < 65536 := Nat.lt_of_le_of_lt Nat.and_le_left hop
          have kor := bits_or16 o (op S j &&& readsF i) ho hand
          have hor := or_lt16 ho hand
          have B0 := Blk.new wr #[.int .i64 i.op, .int .i64 i.rd, .int .i64 i.rs, .int .i64 i.rt, .int .i64 i.im] 32
          have b1' := A0.cell b1 id
          have a1' := A0.cell a1 id
          have hss : ∀ w', Chg NoB (wr.alloc (.cells #[.int .i64 i.op, .int .i64 i.rd, .int .i64 i.rs, .int .i64 i.rt, .int .i64 i.im] 32)) w' → w'.cell? ⟨w.heap.size + 1 + 1, 1, none⟩ = some (.slice (some ⟨(w.heap.size + 1), 0, none⟩) l.length l.length) ∧ w'.cell? ⟨(w.heap.size + 1), j, none⟩ = some (.int .u16 (op S j)) ∧ w'.cell? ⟨wr.heap.size, 0, none⟩ = some (.int .i64 i.op) ∧ w'.cell? ⟨wr.heap.size, 1, none⟩ = some (.int .i64 i.rd) ∧ w'.cell? ⟨wr.heap.size, 2, none⟩ = some (.int .i64 i.rs) ∧ w'.cell? ⟨wr.heap.size, 3, none⟩ = some (.int .i64 i.rt) ∧ w'.cell? ⟨wr.heap.size, 4, none⟩ = some (.int .i64 i.im) := fun w' c => by
            have B := c.blk0 B0
            exact ⟨c.cell b1' id, c.cell a1' id, B.cell' (i := 0) rfl, B.cell' (i := 1) rfl, B.cell' (i := 2) rfl, B.cell' (i := 3) rfl, B.cell' (i := 4) rfl⟩
          have HSS := Lib.hid hss
          have HA0 := Lib.hid A0
          clear hm he A0 B0 b1' a1' hss
          go_wp2_with fail
          clear b1 b2 a1 a2 c0 c1 c2 c3 c4
          refine wp_region_take 12 [0, 1, 2, 3, 4, 5, 6, 7, 8] [9, 10, 11] (fun w' => w'.cell? ⟨w.heap.size + 1 + 1, 1, none⟩ = some (.slice (some ⟨(w.heap.size + 1), 0, none⟩) l.length l.length) ∧ w'.cell? ⟨(w.heap.size + 1), j, none⟩ = some (.int .u16 (op S j)) ∧ w'.cell? ⟨wr.heap.size, 0, none⟩ = some (.int .i64 i.op) ∧ w'.cell? ⟨wr.heap.size, 1, none⟩ = some (.int .i64 i.rd) ∧ w'.cell? ⟨wr.heap.size, 2, none⟩ = some (.int .i64 i.rs) ∧ w'.cell? ⟨wr.heap.size, 3, none⟩ = some (.int .i64 i.rt) ∧ w'.cell? ⟨wr.heap.size, 4, none⟩ = some (.int .i64 i.im)) (by kernel_rfl) (by kernel_rfl) (fun _ _ _ _ _ h => h) (HSS.out _ ((Chg.refl NoB _).drew)) ?_
          simp only [pickOps_nil, pickOps_cons, Option.getD_some, List.getElem?_toArray, List.getElem?_cons_zero, List.getElem?_cons_succ, List.cons_append, List.nil_append, List.drop_succ_cons, List.drop_zero]
          repeat
            refine wpTake_cons' rfl ?_
            apply Exists.intro
            refine ⟨fun wS hS => ?_, ?_⟩
            · try dsimp only at hS
              obtain ⟨b1, a1, x0, x1, x2, x3, x4⟩ := hS
              go_simp
              try rfl
            simp only [Act.put, List.setIfInBounds_toArray, List.set_cons_zero, List.set_cons_succ]
          refine wpTake_nil ?_
          refine wpForce_cons rfl (fun K hK => ?_)
          go_simp
          refine (freads_any i _).mono ?_
          rintro e w5 ⟨rfl, C5'⟩
          have C5 := Lib.hid (((Chg.refl NoB _).drew).step C5')
          refine hK _ _ (HSS.out _ C5.out) ?_
          clear hK K C5'
          refine wpForce_cons rfl (fun K hK => ?_)
          go_simp
          refine hK _ _ (HSS.out _ C5.out) ?_
          clear hK K
          refine wpForce_cons rfl (fun K hK => ?_)
          go_simp
          refine hK _ _ (HSS.out _ C5.out) ?_
          clear hK K
          refine wpForce_nil ?_
          go_wp2_with fail
          go_roundg (l.length - (j + 1))
          case measure => have := HJ.out; omega
          case rel => exact ⟨j + 1, _, by have := HJ.out; omega, by go_num, rfl, hor, by rw [HNX.out, HE.out], HC.out.step (HA0.out.step C5.out)⟩
      · obtain rfl : j = l.length := by omega
        have he : rawF (nxN l) l.length (wrN l) (rdN l) = o := by
          rw [← HRAW.out, ← HFO.out]
          rfl
        have HE := Lib.hid he
        clear he
        go_wp2_with fail
        go_ret
        exact ⟨by rw [HE.out]; rfl, HC1.out.step HC.out⟩
end Go.Proofs.Ytdkplhdinklflaa
