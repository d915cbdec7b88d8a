/- A core: its block, its registers; New, Reg, SetReg, Pc, Run, Trap, Stop. No condition. What cores reckon: truth, told, taken, reckon. No condition but that complex numbers are reckoned by some function. -/
import Derived.Test.YtleilfkcjollaaaGreatGz
import Derived.Test.YtleilfkcjollaaaGreatGf
set_option linter.unusedVariables false
set_option linter.unusedSimpArgs false
namespace Go.Proofs.YtleilfkcjollaaaGreat
open Go.RowKit Go.RR
def Cor.cells (c : Cor) : Array Value := #[.int .u64 (c.r 0), .int .u64 (c.r 1), .int .u64 (c.r 2), .int .u64 (c.r 3), .int .u64 (c.r 4), .int .u64 (c.r 5), .int .u64 (c.r 6), .int .u64 (c.r 7), .int .u64 (c.r 8), .int .u64 (c.r 9), .int .u64 (c.r 10), .int .u64 (c.r 11), .int .u64 (c.r 12), .int .u64 (c.r 13), .int .u64 (c.r 14), .int .u64 (c.r 15), .int .u64 c.pc, .int .i64 c.run, .int .i64 c.trap.cause, .int .u64 c.trap.pc, .int .u64 c.trap.addr]
structure CoreAt (w : World) (cb : Nat) (c : Cor) : Prop where
  blk : Blk w cb c.cells 168
  r0 : c.r 0 = 0
  lt : ∀ k, c.r k < 18446744073709551616
  pc : c.pc < 18446744073709551616
theorem Cor.cells_reg (c : Cor) {n : Nat} (h : n < 16) : c.cells[n]? = some (.int .u64 (c.r n)) := by
  iterate 16 (rcases n with _ | n; · rfl)
  omega
theorem CoreAt.reg {w : World} {cb : Nat} {c : Cor} (h : CoreAt w cb c) {n : Nat} (hn : n < 16) : w.cell? ⟨cb, n, none⟩ = some (.int .u64 (c.r n)) := h.blk.cell' (c.cells_reg hn)
theorem CoreAt.chg {w w' : World} {S : Nat → Prop} {cb : Nat} {c : Cor} (h : CoreAt w cb c) (k : Chg S w w') (hs : ¬ S cb) : CoreAt w' cb c := ⟨k.blk h.blk hs, h.r0, h.lt, h.pc⟩
def Cor.new (pc : Nat) : Cor := ⟨fun _ => 0, pc, 0, ⟨0, 0, 0⟩⟩
set_option maxRecDepth 100000 in
theorem coreNew_any (pc : Nat) (hp : pc < 18446744073709551616) (w : World) : Calls Tryz.prog 86 #[.int .u64 pc] w (RetW (.pointer (some ⟨w.heap.size, 0, none⟩)) fun w' => CoreAt w' w.heap.size (Cor.new pc) ∧ Chg NoB w w') := by
  go_enter Tryz.func86, Tryz.ntmps86
  go_wp2_with fail
  go_ret
  exact ⟨rfl, ⟨Blk.new w _ _, rfl, fun _ => by show 0 < _; omega, hp⟩, (Chg.refl NoB w).alloc _⟩
def Trp.agg (t : Trp) : Value := .agg #[.int .i64 t.cause, .int .u64 t.pc, .int .u64 t.addr]
end Go.Proofs.YtleilfkcjollaaaGreat
set_option linter.unusedVariables false
set_option linter.unusedSimpArgs false
namespace Go.Proofs.YtleilfkcjollaaaGreat
open Go.RowKit Go.RR
structure CxOk (X : Cx) : Prop where
  add : ∀ a b : Nat, a < 18446744073709551616 → b < 18446744073709551616 → X.add a b < 18446744073709551616 ∧ ∀ w, Calls Tryz.prog 217 #[.int .u64 a, .int .u64 b] w (RetW (.int .u64 (X.add a b)) fun w' => w' = w)
  sub : ∀ a b : Nat, a < 18446744073709551616 → b < 18446744073709551616 → X.sub a b < 18446744073709551616 ∧ ∀ w, Calls Tryz.prog 218 #[.int .u64 a, .int .u64 b] w (RetW (.int .u64 (X.sub a b)) fun w' => w' = w)
  mul : ∀ a b : Nat, a < 18446744073709551616 → b < 18446744073709551616 → X.mul a b < 18446744073709551616 ∧ ∀ w, Calls Tryz.prog 219 #[.int .u64 a, .int .u64 b] w (RetW (.int .u64 (X.mul a b)) fun w' => w' = w)
  conj : ∀ a : Nat, a < 18446744073709551616 → X.conj a < 18446744073709551616 ∧ ∀ w, Calls Tryz.prog 220 #[.int .u64 a] w (RetW (.int .u64 (X.conj a)) fun w' => w' = w)
  norm : ∀ a : Nat, a < 18446744073709551616 → X.norm a < 18446744073709551616 ∧ ∀ w, Calls Tryz.prog 221 #[.int .u64 a] w (RetW (.int .u64 (X.norm a)) fun w' => w' = w)
end Go.Proofs.YtleilfkcjollaaaGreat
