/- A core: its block, its registers; New, Reg, SetReg, Pc, Run, Trap, Stop. No condition. What cores reckon: truth, told, taken, reckon. No condition but that complex numbers are reckoned by some function. -/
import Derived.Test.YtapmojfebljjnaaGreatGz
import Derived.Test.YtapmojfebljjnaaGreatGf
set_option linter.unusedVariables false
set_option linter.unusedSimpArgs false
namespace Go.Proofs.YtapmojfebljjnaaGreat
open Go.RowKit Go.RR


def Cor.cells (c : Cor) : Array Value := #[.int .u64 (c.r 0), .int .u64 (c.r 1), .int .u64 (c.r 2), .int .u64 (c.r 3), .int .u64 (c.r 4), .int .u64 (c.r 5), .int .u64 (c.r 6), .int .u64 (c.r 7), .int .u64 (c.r 8), .int .u64 (c.r 9), .int .u64 (c.r 10), .int .u64 (c.r 11), .int .u64 (c.r 12), .int .u64 (c.r 13), .int .u64 (c.r 14), .int .u64 (c.r 15), .int .u64 c.pc, .int .i64 c.run, .int .i64 c.trap.cause, .int .u64 c.trap.pc, .int .u64 c.trap.addr]
structure CoreAt (w : World) (cb : Nat) (c : Cor) : Prop where
  blk : Blk w cb c.cells 89
  r0 : c.r 0 = 0
  lt : ∀ k, c.r k < 18446744073709551616
  pc : c.pc < 18446744073709551616
theorem Cor.cells_reg (c : Cor) {n : Nat} (h : n < 16) : c.cells[n]? = some (.int .u64 (c.r n)) := by
  iterate 16 (rcases n with _ | n; · rfl)
  omega
theorem CoreAt.reg {w : World} {cb : Nat} {c : Cor} (h : CoreAt w cb c) {n : Nat} (hn : n < 16) : w.cell? ⟨cb, n, none⟩ = some (.int .u64 (c.r n)) := h.blk.cell' (c.cells_reg hn)
theorem CoreAt.chg {w w' : World} {S : Nat → Prop} {cb : Nat} {c : Cor} (h : CoreAt w cb c) (k : Chg S w w') (hs : ¬ S cb) : CoreAt w' cb c := ⟨k.blk h.blk hs, h.r0, h.lt, h.pc⟩
theorem Cor.cells_set (c : Cor) {n : Nat} (h : n < 16) (v : Nat) : c.cells.setIfInBounds n (.int .u64 v) = { c with r := fun k => if k = n then v else c.r k }.cells := by
  iterate 16 (rcases n with _ | n; · rfl)
  omega
theorem CoreAt.setReg {w : World} {cb : Nat} {c : Cor} (h : CoreAt w cb c) {n v : Nat} (hn : n < 16) (h0 : n ≠ 0) (hv : v < 18446744073709551616) : CoreAt (w.setCell ⟨cb, n, none⟩ (.int .u64 v)) cb (c.set n v) := by
  have e : c.set n v = { c with r := fun k => if k = n then v else c.r k } := by
    unfold Cor.set
    rw [if_pos ⟨by omega, by omega, by omega⟩]
    congr 1
    funext k
    by_cases hk : k = n
    · rw [if_pos hk, if_pos (by omega)]
    · rw [if_neg hk, if_neg (by omega)]
  rw [e]
  refine ⟨?_, ?_, fun k => ?_, h.pc⟩
  · have := h.blk.set n (.int .u64 v)
    rw [c.cells_set hn] at this
    exact this
  · show (if 0 = n then v else c.r 0) = 0
    rw [if_neg (by omega)]; exact h.r0
  · show (if k = n then v else c.r k) < _
    split
    · exact hv
    · exact h.lt k
theorem CoreAt.setPc {w : World} {cb : Nat} {c : Cor} (h : CoreAt w cb c) {v : Nat} (hv : v < 18446744073709551616) : CoreAt (w.setCell ⟨cb, 16, none⟩ (.int .u64 v)) cb { c with pc := v } := ⟨h.blk.set 16 _, h.r0, h.lt, hv⟩
theorem CoreAt.setRun {w : World} {cb : Nat} {c : Cor} (h : CoreAt w cb c) (v : Int) : CoreAt (w.setCell ⟨cb, 17, none⟩ (.int .i64 v)) cb { c with run := v } := ⟨h.blk.set 17 _, h.r0, h.lt, h.pc⟩
theorem register_any (n : Int) (w : World) : Calls Tryz.prog 30 #[.int .i64 n] w (RetW (.bool (decide (0 ≤ n) && decide (n < 16))) fun w' => w' = w) := by
  generalize h1 : decide (0 ≤ n) = b1
  generalize h2 : decide (n < 16) = b2
  cases b1 <;> cases b2 <;>
  · go_enter Tryz.func30, Tryz.ntmps30
    go_wp2_with fail
    go_ret
    exact ⟨rfl, rfl⟩
def Cor.new (pc : Nat) : Cor := ⟨fun _ => 0, pc, 0, ⟨0, 0, 0⟩⟩
set_option maxRecDepth 100000 in
theorem coreNew_any (pc : Nat) (hp : pc < 18446744073709551616) (w : World) : Calls Tryz.prog 29 #[.int .u64 pc] w (RetW (.pointer (some ⟨w.heap.size, 0, none⟩)) fun w' => CoreAt w' w.heap.size (Cor.new pc) ∧ Chg NoB w w') := by
  go_enter Tryz.func29, Tryz.ntmps29
  go_wp2_with fail
  go_ret
  exact ⟨rfl, ⟨Blk.new w _ _, rfl, fun _ => by show 0 < _; omega, hp⟩, (Chg.refl NoB w).alloc _⟩
set_option maxRecDepth 100000 in
theorem coreSet_any {w : World} {cb : Nat} {c : Cor} (h : CoreAt w cb c) (n : Int) (v : Nat) (hv : v < 18446744073709551616) : Calls Tryz.prog 7 #[.pointer (some ⟨cb, 0, none⟩), .int .i64 n, .int .u64 v] w (RetW (.tuple #[]) fun w' => CoreAt w' cb (c.set n v) ∧ Chg (fun k => k = cb) w w') := by
  have HR := Lib.hid (fun w => register_any n w)
  have H := Lib.hid h
  by_cases hn : 0 ≤ n ∧ n < 16
  · obtain ⟨k, rfl⟩ : ∃ k : Nat, n = k := ⟨n.toNat, by omega⟩
    have hk : k < 16 := by omega
    rw [decide_eq_true hn.1, decide_eq_true hn.2] at HR
    by_cases hk0 : k = 0
    · subst hk0
      have HX : Hid (CoreAt w cb (c.set (0 : Nat) v)) := Lib.hid (by unfold Cor.set; rw [if_neg (by simp)]; exact h)
      clear h hn
      go_enter Tryz.func7, Tryz.ntmps7
      go_wp2_with fail
      refine (HR.out _).mono ?_
      rintro e w1 ⟨rfl, rfl⟩
      go_wp2_with fail
      refine bodyPost_end (results_none rfl _ _ _) rfl ?_
      exact ⟨rfl, HX.out, Chg.refl _ _⟩
    · have t1 : ((k : Int) != 0) = true := by simp; omega
      have HX := Lib.hid (h.setReg hk hk0 hv)
      have f0 := h.reg hk
      have fz := h.blk.frozen k
      have fl := h.blk.lt
      have k0 : (0 : Int) ≤ k := by omega
      have k1 : (k : Int) < 16 := by omega
      have k2 : IntKind.i64.wrap (k : Int) = k := IntWalk.i64_in _ (by omega)
      have k3 : (k : Int).toNat = k := Int.toNat_natCast k
      clear h hn
      go_enter Tryz.func7, Tryz.ntmps7
      go_wp2_with fail
      refine (HR.out _).mono ?_
      rintro e w1 ⟨rfl, rfl⟩
      go_wp2_with fail
      refine bodyPost_end (results_none rfl _ _ _) rfl ?_
      exact ⟨rfl, HX.out, (Chg.refl (fun k => k = cb) _).setCell (a := ⟨cb, k, none⟩) (.inl rfl) _⟩
  · have hf : (decide (0 ≤ n) && decide (n < 16)) = false := by
      rw [Bool.and_eq_false_iff, decide_eq_false_iff_not, decide_eq_false_iff_not]; omega
    rw [hf] at HR
    have HX : Hid (CoreAt w cb (c.set n v)) := Lib.hid (by unfold Cor.set; rw [if_neg (by omega)]; exact h)
    clear h hn hf
    go_enter Tryz.func7, Tryz.ntmps7
    go_wp2_with fail
    refine (HR.out _).mono ?_
    rintro e w1 ⟨rfl, rfl⟩
    go_wp2_with fail
    refine bodyPost_end (results_none rfl _ _ _) rfl ?_
    exact ⟨rfl, HX.out, Chg.refl _ _⟩
set_option maxRecDepth 100000 in
theorem corePc_any {w : World} {cb : Nat} {c : Cor} (h : CoreAt w cb c) : Calls Tryz.prog 10 #[.pointer (some ⟨cb, 0, none⟩)] w (RetW (.int .u64 c.pc) fun w' => w' = w) := by
  have f0 := h.blk.cell' (i := 16) (v := .int .u64 c.pc) rfl
  have fl := h.blk.lt
  clear h
  go_enter Tryz.func10, Tryz.ntmps10
  go_wp2_with fail
  go_ret
  exact ⟨rfl, rfl⟩
set_option maxRecDepth 100000 in
theorem coreRun_any {w : World} {cb : Nat} {c : Cor} (h : CoreAt w cb c) : Calls Tryz.prog 13 #[.pointer (some ⟨cb, 0, none⟩)] w (RetW (.int .i64 c.run) fun w' => w' = w) := by
  have f0 := h.blk.cell' (i := 17) (v := .int .i64 c.run) rfl
  have fl := h.blk.lt
  clear h
  go_enter Tryz.func13, Tryz.ntmps13
  go_wp2_with fail
  go_ret
  exact ⟨rfl, rfl⟩
def Trp.agg (t : Trp) : Value := .agg #[.int .i64 t.cause, .int .u64 t.pc, .int .u64 t.addr]
end Go.Proofs.YtapmojfebljjnaaGreat
set_option linter.unusedVariables false
set_option linter.unusedSimpArgs false
namespace Go.Proofs.YtapmojfebljjnaaGreat
open Go.RowKit Go.RR
structure CxOk (X : Cx) : Prop where
  add : ∀ a b : Nat, a < 18446744073709551616 → b < 18446744073709551616 → X.add a b < 18446744073709551616 ∧ ∀ w, Calls Tryz.prog 136 #[.int .u64 a, .int .u64 b] w (RetW (.int .u64 (X.add a b)) fun w' => w' = w)
  sub : ∀ a b : Nat, a < 18446744073709551616 → b < 18446744073709551616 → X.sub a b < 18446744073709551616 ∧ ∀ w, Calls Tryz.prog 137 #[.int .u64 a, .int .u64 b] w (RetW (.int .u64 (X.sub a b)) fun w' => w' = w)
  mul : ∀ a b : Nat, a < 18446744073709551616 → b < 18446744073709551616 → X.mul a b < 18446744073709551616 ∧ ∀ w, Calls Tryz.prog 138 #[.int .u64 a, .int .u64 b] w (RetW (.int .u64 (X.mul a b)) fun w' => w' = w)
  conj : ∀ a : Nat, a < 18446744073709551616 → X.conj a < 18446744073709551616 ∧ ∀ w, Calls Tryz.prog 139 #[.int .u64 a] w (RetW (.int .u64 (X.conj a)) fun w' => w' = w)
  norm : ∀ a : Nat, a < 18446744073709551616 → X.norm a < 18446744073709551616 ∧ ∀ w, Calls Tryz.prog 140 #[.int .u64 a] w (RetW (.int .u64 (X.norm a)) fun w' => w' = w)
theorem wrap_sof (a : Nat) (h : a < 18446744073709551616) : wrap64 (a : Int) = sof a := by
  unfold wrap64 sof
  split <;> omega
theorem uof_int (n : Int) : ((uof n : Nat) : Int) = n % 18446744073709551616 := by unfold uof; omega
theorem uof_lt (n : Int) : uof n < 18446744073709551616 := by unfold uof; omega
theorem truth_any (b : Bool) (w : World) : Calls Tryz.prog 105 #[.bool b] w (RetW (.int .u64 (if b then 1 else 0 : Nat)) fun w' => w' = w) := by
  cases b <;>
  · go_enter Tryz.func105, Tryz.ntmps105
    go_wp2_with fail
    go_ret
    exact ⟨rfl, rfl⟩
theorem told_any (o : Int) (v : Nat) (hv : v < 18446744073709551616) (w : World) : Calls Tryz.prog 103 #[.int .i64 o, .int .u64 v] w (RetW (.int .u64 (toldF o v)) fun w' => w' = w) := by
  have HS := Lib.hid (signed_any o)
  have HZ := Lib.hid (isize_any o)
  have HG := Lib.hid (fun w => sign_any v (sizeI o) w hv)
  have HT : Hid (toldF o v = if signedI o then signW v (sizeI o) else v) := Lib.hid rfl
  generalize signedI o = b at HS HT
  rw [HT.out]
  clear hv
  cases b
  · go_enter Tryz.func103, Tryz.ntmps103
    go_wp2_with fail
    refine (HS.out _).mono ?_
    rintro e w1 ⟨rfl, rfl⟩
    go_wp2_with fail
    go_ret
    exact ⟨rfl, rfl⟩
  · go_enter Tryz.func103, Tryz.ntmps103
    go_wp2_with fail
    refine (HS.out _).mono ?_
    rintro e w1 ⟨rfl, rfl⟩
    go_wp2_with fail
    refine (HZ.out _).mono ?_
    rintro e w1 ⟨rfl, rfl⟩
    go_wp2_with fail
    refine (HG.out _).mono ?_
    rintro e w1 ⟨rfl, rfl⟩
    go_wp2_with fail
    go_ret
    exact ⟨rfl, rfl⟩
set_option maxRecDepth 100000 in
theorem taken_any (o : Int) (a b : Nat) (ha : a < 18446744073709551616) (hb : b < 18446744073709551616) (w : World) : Calls Tryz.prog 104 #[.int .i64 o, .int .u64 a, .int .u64 b] w (RetW (.bool (takenB o a b)) fun w' => w' = w) := by
  have HT : Hid (takenB o a b = if o = 15 then decide (a = b) else if o = 16 then decide (a ≠ b) else if o = 17 then decide (sof a < sof b) else decide (o = 18)) := Lib.hid rfl
  have s1 := wrap_sof a ha
  have s2 := wrap_sof b hb
  have e1 : ((a : Int) == (b : Int)) = decide (a = b) := by rw [Bool.eq_iff_iff]; simp; omega
  have e2 : ((a : Int) != (b : Int)) = decide (a ≠ b) := by rw [Bool.eq_iff_iff]; simp; omega
  obtain ⟨x1, hx1⟩ : ∃ x, decide (a = b) = x := ⟨_, rfl⟩
  obtain ⟨x2, hx2⟩ : ∃ x, decide (a ≠ b) = x := ⟨_, rfl⟩
  obtain ⟨x3, hx3⟩ : ∃ x, decide (sof a < sof b) = x := ⟨_, rfl⟩
  rw [hx1] at e1
  rw [hx2] at e2
  rw [hx1, hx2, hx3] at HT
  clear hx1 hx2 ha hb
  by_cases h1 : o = 15
  · subst h1
    rw [HT.out]
    go_enter Tryz.func104, Tryz.ntmps104
    go_wp2_with fail
    go_ret
    exact ⟨rfl, rfl⟩
  · by_cases h2 : o = 16
    · subst h2
      rw [HT.out]
      go_enter Tryz.func104, Tryz.ntmps104
      go_wp2_with fail
      go_ret
      exact ⟨rfl, rfl⟩
    · by_cases h3 : o = 17
      · subst h3
        rw [HT.out]
        go_enter Tryz.func104, Tryz.ntmps104
        go_wp2_with fail
        go_ret
        exact ⟨rfl, rfl⟩
      · have n1 : (o == 15) = false := beq_eq_false_iff_ne.2 h1
        have n2 : (o == 16) = false := beq_eq_false_iff_ne.2 h2
        have n3 : (o == 17) = false := beq_eq_false_iff_ne.2 h3
        rw [HT.out, if_neg h1, if_neg h2, if_neg h3]
        have n4 : (o == 18) = decide (o = 18) := by rw [Bool.eq_iff_iff]; simp
        obtain ⟨x, hx⟩ : ∃ x, decide (o = 18) = x := ⟨_, rfl⟩
        rw [hx] at n4 ⊢
        clear h1 h2 h3 hx
        go_enter Tryz.func104, Tryz.ntmps104
        go_wp2_with fail
        go_ret
        exact ⟨rfl, rfl⟩
end Go.Proofs.YtapmojfebljjnaaGreat
