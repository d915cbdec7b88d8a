/-
  MeterFacts: for every input the law returns true and each argument reads behind the call as it read before. No condition.
-/
import Derived.Test.YtjhnnjgnkkjmkaaGreatDoorRows
import Derived.Test.YtjhnnjgnkkjmkaaGreatDoorCards
import Derived.Test.YtjhnnjgnkkjmkaaGreatDoorTie
import Derived.Lay
import Derived.SevenTiedAt
import Derived.Stop.Joined
import Derived.Test.YtjhnnjgnkkjmkaaGreatDoorIu
import Derived.Test.YtjhnnjgnkkjmkaaGreatDoorFb
import Derived.WalkKit
import Derived.ProofKit
import Derived.OpenShut
import Derived.ShutString
import Derived.ChangeOld
import Derived.Below
namespace Go.Proofs.YtjhnnjgnkkjmkaaGreatDoor.meterFacts
open Go.ChangeShapes Go.WideShapes Go.ChangeAt Go.RowKit Go.RR
open Go.ChangeMaps (open_string shut_string)
set_option linter.unusedVariables false

theorem own : ownKnob Tryz.prog.godebug = none := by kernel_rfl
theorem laidOut : laidOutB Tryz.prog = true := by kernel_rfl

set_option maxRecDepth 100000 in
theorem walk {H : Type} {enc : TypeId × Value → H} (b0 : Nat) (w : World) (a0 : Option Addr) (len0 cap0 : Nat) (r0 : Rd enc Tryz.prog w 34 [.slice a0 len0 cap0]) (a1 : Int) (w1 : (Lit.int .i64 a1).wf = true)  (sh : w.ShapedOpen Tryz.prog) (hL : laidMetH Tryz.prog Rows.meterFactsRow.laid w) :
    Calls Tryz.prog 4 #[.slice a0 len0 cap0, .int .i64 a1] w fun e w' => e = .returned (.bool true) ∧ Below w.heap.size w w' := by
  obtain ⟨l, hl, hn, hs, hok⟩ := facts_in r0
  rw [← hl]
  rw [← hl] at hs hn
  exact (meterFacts_any (Lb.of sh hL) l _ _ hs hn a1 (bounds_i64 w1).1 (bounds_i64 w1).2).mono fun e w' ⟨he, hc⟩ => ⟨he, hc.below (Nat.le_refl _) (fun _ h => h.elim)⟩

end Go.Proofs.YtjhnnjgnkkjmkaaGreatDoor.meterFacts
