/- Cores: do. No condition but that complex numbers are reckoned by some function. Cores: Try. No condition but that complex numbers are reckoned by some function. Cores: Try where nothing is tried. No condition. How many frames a space needs; the reference's space of one shape. No condition. -/
import Derived.Test.YtapmojfebljjnaaGreatHh
set_option linter.unusedVariables false
set_option linter.unusedSimpArgs false
namespace Go.Proofs.YtapmojfebljjnaaGreat
open Go.RowKit Go.RR
theorem kd_reck {o : Int} (h0 : 0 ≤ o) (h1 : o ≤ 34) (h : kd o = .I ∨ kd o = .RI ∨ kd o = .R ∨ kd o = .U) : 1 ≤ o ∧ o ≤ 14 := by
  obtain ⟨n, rfl⟩ : ∃ n : Nat, o = n := ⟨o.toNat, by omega⟩
  have hn : n < 35 := by omega
  have : ∀ n : Nat, n < 35 → (kd n = .I ∨ kd n = .RI ∨ kd n = .R ∨ kd n = .U) → 1 ≤ n ∧ n ≤ 14 := by decide
  have := this n hn h
  omega
theorem overF_form (c : Cor) (u : Mu) (i : In) (pick : Int) : ((overF c u i pick).1.cause = -1 ∧ (overF c u i pick).1.done = true ∧ (overF c u i pick).2.1.pc = (c.pc + 4) % 18446744073709551616) ∨
    ((overF c u i pick).1.cause ≠ -1 ∧ (overF c u i pick).1.done = false ∧ (overF c u i pick).2.1.pc = c.pc) := by
  unfold overF
  dsimp only
  split
  · split
    · exact .inr ⟨by assumption, rfl, rfl⟩
    · exact .inl ⟨rfl, rfl, rfl⟩
  · split
    · split
      · exact .inr ⟨by assumption, rfl, rfl⟩
      · exact .inl ⟨rfl, rfl, rfl⟩
    · split
      · exact .inr ⟨by assumption, rfl, rfl⟩
      · exact .inl ⟨rfl, rfl, rfl⟩
end Go.Proofs.YtapmojfebljjnaaGreat
set_option linter.unusedVariables false
set_option linter.unusedSimpArgs false
namespace Go.Proofs.YtapmojfebljjnaaGreat
open Go.RowKit Go.RR
theorem chg_sets {S : Nat → Prop} {w w' : World} (h : Chg S w w') {b : Nat} (hb : S b ∨ w.heap.size ≤ b) : ∀ l : List (Nat × Value), Chg S w (l.foldl (fun w x => w.setCell ⟨b, x.1, none⟩ x.2) w')
  | [] => h
  | x :: l => chg_sets (h.setCell (a := ⟨b, x.1, none⟩) hb x.2) hb l
/-- The end of Try: its own two blocks alone have changed since. -/
theorem try_fin {w wx w2 wf : World} {SM SB : Nat → Prop} {cb ub mb bb tb : Nat} {c : Cor} {u : Mu} (htb : tb = w.heap.size) (hx : tb + 1 < wx.heap.size) (hsm : ∀ k, SM k → k < w.heap.size) (hcb : cb < w.heap.size) (hub : ub < w.heap.size) (hsb : ∀ k, SB k → k < w.heap.size)
    (hc : CoreAt w2 cb c) (hm : MuAt w2 (Grow SM wx) SB ub mb bb u) (k : Chg (fun k => k = cb ∨ SM k ∨ SB k) w w2) (kf : Chg (fun k => k = tb ∨ k = tb + 1) w2 wf) :
    CoreAt wf cb c ∧ MuAt wf (Grow SM w) SB ub mb bb u ∧ Chg (fun k => k = cb ∨ SM k ∨ SB k) w wf := by
  refine ⟨hc.chg kf (by omega), (hm.chg kf (by omega) (fun j hj => ?_) (fun j hj => by have := hsb j hj; omega)).reGrow (by omega) hub hsb, k.trans kf fun j hj e => by omega⟩
  rcases hj with hj | hj
  · have := hsm j hj; omega
  · omega
def tryG (X : Cx) (c : Cor) (u : Mu) (g : Option In) (pick : Int) : DidP × Cor × Mu := match g with
  | none => (DidP.no c.pc 2, c, u)
  | some i => doF X c u i pick
def DidP.agg (d : DidP) : Value := .agg d.cells
theorem MuAt.fetch_lt {w : World} {SM SB : Nat → Prop} {ub mb bb : Nat} {u : Mu} (h : MuAt w SM SB ub mb bb u) (va : Nat) (a pick : Int) : (readF u va 4 a pick).1.1 < 4294967296 := by
  unfold readF
  by_cases hc : (placeF u va 4 a pick).1.2 = -1
  · simp only [hc, ne_eq, not_true_eq_false, if_false]
    exact Nat.lt_of_lt_of_eq (getW_lt h.mem.ok _ _) (by decide)
  · simp only [ne_eq, hc, not_false_eq_true, if_true]
    omega
end Go.Proofs.YtapmojfebljjnaaGreat
set_option linter.unusedVariables false
set_option linter.unusedSimpArgs false
namespace Go.Proofs.YtapmojfebljjnaaGreat
open Go.RowKit Go.RR
end Go.Proofs.YtapmojfebljjnaaGreat
set_option linter.unusedVariables false
set_option linter.unusedSimpArgs false
namespace Go.Proofs.YtapmojfebljjnaaGreat
open Go.RowKit Go.RR
set_option maxRecDepth 100000 in
theorem shape_any (w : World) : Calls Tryz.prog 19 #[] w (RetW (.agg #[.int .i64 1, .int .i64 1, .int .i64 2]) fun w' => Chg NoB w w') := by
  go_enter Tryz.func19, Tryz.ntmps19
  go_wp2_with fail
  exact bodyPost_ret (v := .agg #[.int .i64 1, .int .i64 1, .int .i64 2]) (by simp [results, Tryz.results19, go_sem]) rfl ⟨rfl, (Chg.refl NoB w).alloc _⟩
set_option maxHeartbeats 1000000 in
set_option maxRecDepth 100000 in
theorem sNeed_any (w : World) : Calls Tryz.prog 21 #[.agg #[.int .i64 1, .int .i64 1, .int .i64 2]] w (RetW (.int .i64 9) fun w' => Chg NoB w w') := by
  have HR := Lib.hid fun w' => shapeRight_any ⟨1, 1, 2⟩ w'
  go_enter Tryz.func21, Tryz.ntmps21
  go_wp2_with fail
  refine (HR.out _).mono ?_
  rintro e w1 ⟨rfl, C1⟩
  have k0 : Chg NoB w (w.alloc (.cells #[.int .i64 1, .int .i64 1, .int .i64 2] 62)) := (Chg.refl NoB w).alloc _
  have hB := C1.blk0 (Blk.new w #[.int .i64 1, .int .i64 1, .int .i64 2] 62)
  have g := hB.cell
  have gl := hB.lt
  have HC := Lib.hid (k0.step C1)
  have t1 : (⟨1, 1, 2⟩ : Shp).ok = true := rfl
  clear hB k0 C1 HR
  go_wp2_with fail
  go_ret
  exact ⟨rfl, HC.out⟩
set_option maxHeartbeats 1000000 in
set_option maxRecDepth 100000 in
theorem rShape_any (w : World) : Calls Tryz.prog 55 #[.agg #[.int .i64 1, .int .i64 1, .int .i64 2]] w (RetW (.bool true) fun w' => Chg NoB w w') := by
  go_enter Tryz.func55, Tryz.ntmps55
  go_wp2_with fail
  go_ret
  exact ⟨rfl, (Chg.refl NoB w).alloc _⟩
set_option maxHeartbeats 1000000 in
set_option maxRecDepth 100000 in
theorem rNeed_any (w : World) : Calls Tryz.prog 23 #[.agg #[.int .i64 1, .int .i64 1, .int .i64 2]] w (RetW (.int .i64 9) fun w' => Chg NoB w w') := by
  have HR := Lib.hid fun w' => rShape_any w'
  go_enter Tryz.func23, Tryz.ntmps23
  go_wp2_with fail
  refine (HR.out _).mono ?_
  rintro e w1 ⟨rfl, C1⟩
  have k0 : Chg NoB w (w.alloc (.cells #[.int .i64 1, .int .i64 1, .int .i64 2] 62)) := (Chg.refl NoB w).alloc _
  have hB := C1.blk0 (Blk.new w #[.int .i64 1, .int .i64 1, .int .i64 2] 62)
  have g := hB.cell
  have gl := hB.lt
  have HC := Lib.hid (k0.step C1)
  clear hB k0 C1 HR
  go_wp2_with fail
  go_loopg [3, 4] 2 (fun k n p wr => wr = w1 ∧ ((k = 2 ∧ p = .int .i64 0 ∧ n = .int .i64 5) ∨ (k = 1 ∧ p = .int .i64 1 ∧ n = .int .i64 8) ∨ (k = 0 ∧ p = .int .i64 2 ∧ n = .int .i64 9)))
  case atStart => exact ⟨rfl, .inl ⟨rfl, rfl, rfl⟩⟩
  case round =>
    obtain ⟨rfl, ⟨hk, rfl, rfl⟩ | ⟨hk, rfl, rfl⟩ | ⟨hk, rfl, rfl⟩⟩ := hrel
    · subst hk
      go_wp2_with fail
      go_roundg 1
      case rel => exact ⟨rfl, .inr (.inl ⟨rfl, rfl, rfl⟩)⟩
      case measure => omega
    · subst hk
      go_wp2_with fail
      go_roundg 0
      case rel => exact ⟨rfl, .inr (.inr ⟨rfl, rfl, rfl⟩)⟩
      case measure => omega
    · go_wp2_with fail
      go_ret
      exact ⟨rfl, HC.out⟩
end Go.Proofs.YtapmojfebljjnaaGreat
