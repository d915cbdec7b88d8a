/- The buffer of entries: the way that is to be filled. No condition. -/
import Derived.Test.YtleilfkcjollaaaGreatGn
set_option linter.unusedVariables false
set_option linter.unusedSimpArgs false
namespace Go.Proofs.YtleilfkcjollaaaGreat
open Go.RowKit Go.RR
end Go.Proofs.YtleilfkcjollaaaGreat
