/- Instructions by the reference: rows, parts, right ones. No condition. Instructions by the reference: parts, right ones. No condition. -/
import Derived.Test.YtleilfkcjollaaaGreatGb
import Derived.Deep.CutBlock
set_option linter.unusedVariables false
namespace Go.Proofs.YtleilfkcjollaaaGreat
open Go.RowKit Go.RR

end Go.Proofs.YtleilfkcjollaaaGreat
set_option linter.unusedVariables false
set_option linter.unusedSimpArgs false
namespace Go.Proofs.YtleilfkcjollaaaGreat
open Go.RowKit Go.RR

def Kd.parts : Kd → ByteArray
  | .I | .J => ⟨#[100, 105]⟩
  | .RI | .L => ⟨#[100, 115, 105]⟩
  | .R | .A => ⟨#[100, 115, 116]⟩
  | .U => ⟨#[100, 115]⟩
  | .B | .S => ⟨#[115, 116, 105]⟩
  | _ => ⟨#[]⟩
end Go.Proofs.YtleilfkcjollaaaGreat
