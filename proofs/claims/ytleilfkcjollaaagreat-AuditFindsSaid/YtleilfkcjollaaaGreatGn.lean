/- The buffer of entries: finding in it. No condition. -/
import Derived.Test.YtleilfkcjollaaaGreatGm
import Derived.Test.YtleilfkcjollaaaGreatGe
import Derived.Deep.LoopGhost
set_option linter.unusedVariables false
set_option linter.unusedSimpArgs false
namespace Go.Proofs.YtleilfkcjollaaaGreat
open Go.RowKit Go.RR
end Go.Proofs.YtleilfkcjollaaaGreat
