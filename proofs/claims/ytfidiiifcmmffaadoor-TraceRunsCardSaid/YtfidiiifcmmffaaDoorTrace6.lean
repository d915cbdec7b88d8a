/- An act of words, by the program. No condition. -/
import Derived.Test.YtfidiiifcmmffaaDoorTrace4
import Derived.Test.YtfidiiifcmmffaaDoorTraceP3
set_option linter.unusedVariables false
set_option linter.unusedSimpArgs false
namespace Go.Proofs.YtfidiiifcmmffaaDoor
open Go.RowKit Go.RR

def bsv (s : Bs) : Value := .string ⟨s.toArray⟩
def shapesL : List Value := [bsv (nameF 0), .int .i64 2, bsv (nameF 1), .int .i64 1, bsv (nameF 2), .int .i64 1, bsv (nameF 3), .int .i64 1, bsv (nameF 4), .int .i64 2, bsv (nameF 5), .int .i64 2, bsv (nameF 6), .int .i64 0]
set_option maxHeartbeats 4000000 in
set_option maxRecDepth 100000 in
theorem shapes_any (w : World) : Calls Tryd.prog 23 #[] w (RetW (.agg shapesL.toArray) fun w' => Chg NoB w w') := by
  go_enter Tryd.func23, Tryd.ntmps23
  go_wp2_with fail
  exact bodyPost_ret (v := .agg shapesL.toArray) (by simp [results, Tryd.results23, go_sem, shapesL, bsv, nameF, namesF]) rfl ⟨rfl, (Chg.refl _ _).alloc _⟩
end Go.Proofs.YtfidiiifcmmffaaDoor
