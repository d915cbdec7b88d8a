/- Part of MeterTexts. No condition. -/
import Derived.Test.YtjhnnjgnkkjmkaaGreatDoorRows
import Derived.Test.YtjhnnjgnkkjmkaaGreatDoorCards
import Derived.Test.YtjhnnjgnkkjmkaaGreatDoorTie
import Derived.Lay
import Derived.SevenTiedAt
import Derived.Stop.Joined
import Derived.Test.YtjhnnjgnkkjmkaaGreatDoorIy
import Derived.Test.YtjhnnjgnkkjmkaaGreatDoorFb
import Derived.WalkKit
import Derived.ProofKit
import Derived.OpenShut
import Derived.ShutString
import Derived.ChangeOld
import Derived.Below
set_option maxRecDepth 100000
namespace Go.Proofs.YtjhnnjgnkkjmkaaGreatDoor.meterTexts
open Go.ChangeShapes Go.WideShapes Go.ChangeAt Go.RowKit Go.RR
open Go.ChangeMaps (open_string shut_string)
set_option linter.unusedVariables false
theorem own:ownKnob Tryz.prog.godebug=none:=by kernel_rfl
theorem laidOut:laidOutB Tryz.prog=true:=by kernel_rfl
theorem walk {H:Type} {enc:TypeId×Value→H} (b0:Nat) (w:World) (v0:Value) (ok0:Value.okWide Tryz.prog w .any b0 26 v0) (r0:Rd enc Tryz.prog w 26 v0.cells.toList) (v1:Value) (ok1:Value.okWide Tryz.prog w .any b0 26 v1) (r1:Rd enc Tryz.prog w 26 v1.cells.toList)  (sh:w.ShapedOpen Tryz.prog) (hL:laidMetH Tryz.prog Rows.meterTextsRow.laid w) :
  Calls Tryz.prog 3 #[v0,v1] w fun e w'=>e = .returned (.bool true)∧Below w.heap.size w w':=by
 obtain ⟨t,rfl,ht,tz⟩:=tally_rd ok0 r0
 obtain ⟨u,rfl,hu,uz⟩:=tally_rd ok1 r1
 exact (meterTexts_any (Lb.of sh hL) t u ht hu tz uz).mono fun e w' ⟨he,hc⟩=>⟨he,hc.below (Nat.le_refl _) (fun _ h=>h.elim)⟩
end Go.Proofs.YtjhnnjgnkkjmkaaGreatDoor.meterTexts
