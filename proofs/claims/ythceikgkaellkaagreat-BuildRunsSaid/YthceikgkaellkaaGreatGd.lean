/- slices.Clone: what it answers. No condition. -/
import Derived.Test.YthceikgkaellkaaGreatProg
import Derived.Test.YthceikgkaellkaaGreatFa
set_option linter.unusedVariables false
namespace Go.Proofs.YthceikgkaellkaaGreat
open Go.RowKit Go.RR


theorem b_elem : (Tryz.prog.info? 5).map (fun i => (i.zero, i.size, i.bytes)) = some (some (.int .u8 0), 1, 1) := by kernel_rfl

end Go.Proofs.YthceikgkaellkaaGreat
