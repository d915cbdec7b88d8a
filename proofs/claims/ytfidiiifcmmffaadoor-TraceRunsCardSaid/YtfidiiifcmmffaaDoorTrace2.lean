/- The reference's small tables. No condition. -/
import Derived.Test.YtfidiiifcmmffaaDoorTraceP3
import Derived.Test.YtfidiiifcmmffaaDoorTrace
set_option linter.unusedVariables false
set_option linter.unusedSimpArgs false
namespace Go.Proofs.YtfidiiifcmmffaaDoor
open Go.RowKit Go.RR

set_option maxHeartbeats 4000000 in
set_option maxRecDepth 100000 in
theorem count_any (k : Nat) (hk : k < 7) (w : World) : Calls Tryd.prog 22 #[.int .i64 k] w (RetW (.int .i64 (cntF k)) fun w' => Chg NoB w w') := by
  have A0 := (Chg.refl NoB w).alloc (.cells (cntsF.map fun c : Nat => Value.int .i64 c).toArray 3)
  have B0 := Blk.new w (cntsF.map fun c : Nat => Value.int .i64 c).toArray 3
  have x0 := B0.cell' (i := k) (v := .int .i64 (cntF k)) (by
    have : ∀ k < 7, (cntsF.map fun c : Nat => Value.int .i64 c).toArray[k]? = some (.int .i64 (cntF k)) := by
      intro k hk
      match k, hk with
      | 0, _ => rfl
      | 1, _ => rfl
      | 2, _ => rfl
      | 3, _ => rfl
      | 4, _ => rfl
      | 5, _ => rfl
      | 6, _ => rfl
    exact this k hk)
  have k0 : (0 : Int) ≤ k ∧ (k : Int) < 7 := by omega
  have HA := Lib.hid A0
  have e : (cntsF.map fun c : Nat => Value.int .i64 c).toArray = #[.int .i64 2, .int .i64 1, .int .i64 1, .int .i64 1, .int .i64 2, .int .i64 2, .int .i64 0] := rfl
  rw [e] at x0 HA
  clear A0 B0 e
  go_enter Tryd.func22, Tryd.ntmps22
  go_wp2_with fail
  go_ret
  exact ⟨rfl, HA.out⟩
def strs (l : List Bs) : List Value := l.map fun s => Value.string ⟨s.toArray⟩
set_option maxHeartbeats 4000000 in
set_option maxRecDepth 100000 in
theorem names_any (w : World) : Calls Tryd.prog 21 #[] w (RetW (.slice (some ⟨w.heap.size, 0, none⟩) 7 7) fun w' => w' = w.alloc (.cells (strs namesF).toArray 9)) := by
  go_enter Tryd.func21, Tryd.ntmps21
  go_wp2_with fail
  go_ret
  exact ⟨rfl, rfl⟩
end Go.Proofs.YtfidiiifcmmffaaDoor
