/- The law's first words: plain. No condition. -/
import Derived.Test.YtfidiiifcmmffaaDoorTraceP5
set_option linter.unusedVariables false
set_option linter.unusedSimpArgs false
namespace Go.Proofs.YtfidiiifcmmffaaDoor
def L0 : List Ac := [(0, 0, 0), (0, 0, 0), (6, 0, 0), (4, 2, -3)]
/-- "run 0 0 x2\ntick\nturn 2 -3\n" -/
def T0 : Bs := [114, 117, 110, 32, 48, 32, 48, 32, 120, 50, 10, 116, 105, 99, 107, 10, 116, 117, 114, 110, 32, 50, 32, 45, 51, 10]
/-- "run 0 0 x2 # twice\n\n tick\nturn 2 -3" -/
def T1 : Bs := [114, 117, 110, 32, 48, 32, 48, 32, 120, 50, 32, 35, 32, 116, 119, 105, 99, 101, 10, 10, 32, 116, 105, 99, 107, 10, 116, 117, 114, 110, 32, 50, 32, 45, 51]
/-- "tick\ntick 1" -/
def T2 : Bs := [116, 105, 99, 107, 10, 116, 105, 99, 107, 32, 49]
theorem L0_print : printF L0 = some T0 := by kernel_rfl
theorem T1_parse : parseF T1 = (L0, 0, true) := by kernel_rfl
theorem T2_parse : parseF T2 = ([], 2, false) := by kernel_rfl
end Go.Proofs.YtfidiiifcmmffaaDoor
