/-
  No cell of these rows narrows 'for every input' (looked for: loops, veiled, ifaces, maps, wideKeys, modest, calm, conditions, laid).
  DERIVED. THE GIVEN ROWS OF THIS SEAT. 11 by the template 'for every input the law returns true; each argument reads behind the call as it read before'; 0 by the template 'total and deterministic' (their statements: YtokigldggkkbcaaTotals.lean).
  GIVEN WITH THE SEED: the statements are not yours to turn. If you find one false, say at which input.
  Laid BY PROGRAM, IN A SANDBOX (cutbox-rows.mjs): the forced cells as the released guide's own fill.sh prints them over the translation 298eff0505d47b45… (all of the seat's roots in one cut). By AI agents, Wed Nov 11 2026. No macro, syntax, notation, axiom, sorry.
-/
import Derived.Test.YtokigldggkkbcaaChecked
import GoSem.Claim
import GoSem.ClaimJoined
import GoSem.ClaimMapViews
import Derived.JoinedTies
import Derived.KernelRfl
namespace Go.Proofs.Ytokigldggkkbcaa
/- THE CELL 'sum', in the pinned program and in every row, IS THE sha256 OF THE DUMP (.gsa) THAT YtokigldggkkbcaaProg.lean LOADS. Nothing in Lean hashes anything: it is a label: what it is worth is what the hold of that sum in a sandbox is worth. -/
noncomputable def Try.pinned : Pinned := { name := "ytokigldggkkbcaa", sum := "298eff0505d47b454529546399b106c656a229bfa33a7d5d02af7f559603c81a", checked := Try.checked }
namespace Rows
def none {H : Type} : Left H := { results := [], args := [] }

/-- 'runriglaw18.RecvOrder': WHATEVER THE INPUT: true; the input reads as it did. -/
def recvOrderSpec : ChangeSpec := { name := "recvOrder", fn := fun _ => fun
  | [d1, d2] => { results := [.lit (.bool true)], args := [d1, d2] }
  | _ => none }
def recvOrderRow : OpenClaim := { program := "ytokigldggkkbcaa", sum := "298eff0505d47b454529546399b106c656a229bfa33a7d5d02af7f559603c81a", func := "runrig/runriglaw18.RecvOrder", spec := "recvOrder", apart := false }
def RecvOrderSaid : Prop := recvOrderRow.holds Try.pinned (OpenSpec.ofChange recvOrderSpec)

/-- ITS FALSE NEIGHBOUR: 'it returns false'. Refute it at one input. -/
def recvOrderWrong : ChangeSpec := { name := "recvOrder", fn := fun _ => fun
  | [d1, d2] => { results := [.lit (.bool false)], args := [d1, d2] }
  | _ => none }
def RecvOrderWrongFalsely : Prop := recvOrderRow.holds Try.pinned (OpenSpec.ofChange recvOrderWrong)

/-- 'runriglaw18.RecvPlays': WHATEVER THE INPUT: true; the input reads as it did. -/
def recvPlaysSpec : ChangeSpec := { name := "recvPlays", fn := fun _ => fun
  | [d1, d2] => { results := [.lit (.bool true)], args := [d1, d2] }
  | _ => none }
def recvPlaysRow : OpenClaim := { program := "ytokigldggkkbcaa", sum := "298eff0505d47b454529546399b106c656a229bfa33a7d5d02af7f559603c81a", func := "runrig/runriglaw18.RecvPlays", spec := "recvPlays", apart := false }
def RecvPlaysSaid : Prop := recvPlaysRow.holds Try.pinned (OpenSpec.ofChange recvPlaysSpec)

/-- ITS FALSE NEIGHBOUR: 'it returns false'. Refute it at one input. -/
def recvPlaysWrong : ChangeSpec := { name := "recvPlays", fn := fun _ => fun
  | [d1, d2] => { results := [.lit (.bool false)], args := [d1, d2] }
  | _ => none }
def RecvPlaysWrongFalsely : Prop := recvPlaysRow.holds Try.pinned (OpenSpec.ofChange recvPlaysWrong)

/-- 'runriglaw05.RingPlays': WHATEVER THE INPUT: true; the input reads as it did. -/
def ringPlaysSpec : ChangeSpec := { name := "ringPlays", fn := fun _ => fun
  | [d1, d2] => { results := [.lit (.bool true)], args := [d1, d2] }
  | _ => none }
def ringPlaysRow : OpenClaim := { program := "ytokigldggkkbcaa", sum := "298eff0505d47b454529546399b106c656a229bfa33a7d5d02af7f559603c81a", func := "runrig/runriglaw05.RingPlays", spec := "ringPlays", apart := false }
def RingPlaysSaid : Prop := ringPlaysRow.holds Try.pinned (OpenSpec.ofChange ringPlaysSpec)

/-- ITS FALSE NEIGHBOUR: 'it returns false'. Refute it at one input. -/
def ringPlaysWrong : ChangeSpec := { name := "ringPlays", fn := fun _ => fun
  | [d1, d2] => { results := [.lit (.bool false)], args := [d1, d2] }
  | _ => none }
def RingPlaysWrongFalsely : Prop := ringPlaysRow.holds Try.pinned (OpenSpec.ofChange ringPlaysWrong)

/-- 'runriglaw05.RingOrder': WHATEVER THE INPUT: true; the input reads as it did. -/
def ringOrderSpec : ChangeSpec := { name := "ringOrder", fn := fun _ => fun
  | [d1, d2] => { results := [.lit (.bool true)], args := [d1, d2] }
  | _ => none }
def ringOrderRow : OpenClaim := { program := "ytokigldggkkbcaa", sum := "298eff0505d47b454529546399b106c656a229bfa33a7d5d02af7f559603c81a", func := "runrig/runriglaw05.RingOrder", spec := "ringOrder", apart := false }
def RingOrderSaid : Prop := ringOrderRow.holds Try.pinned (OpenSpec.ofChange ringOrderSpec)

/-- ITS FALSE NEIGHBOUR: 'it returns false'. Refute it at one input. -/
def ringOrderWrong : ChangeSpec := { name := "ringOrder", fn := fun _ => fun
  | [d1, d2] => { results := [.lit (.bool false)], args := [d1, d2] }
  | _ => none }
def RingOrderWrongFalsely : Prop := ringOrderRow.holds Try.pinned (OpenSpec.ofChange ringOrderWrong)

/-- 'runriglaw38.ShrinkParts': WHATEVER THE INPUT: true; the input reads as it did. -/
def shrinkPartsSpec : ChangeSpec := { name := "shrinkParts", fn := fun _ => fun
  | [d1, d2, d3] => { results := [.lit (.bool true)], args := [d1, d2, d3] }
  | _ => none }
def shrinkPartsRow : OpenClaim := { program := "ytokigldggkkbcaa", sum := "298eff0505d47b454529546399b106c656a229bfa33a7d5d02af7f559603c81a", func := "runrig/runriglaw38.ShrinkParts", spec := "shrinkParts", unfollowed := true, recurses := true, apart := false }
def ShrinkPartsSaid : Prop := shrinkPartsRow.holds Try.pinned (OpenSpec.ofChange shrinkPartsSpec)

/-- ITS FALSE NEIGHBOUR: 'it returns false'. Refute it at one input. -/
def shrinkPartsWrong : ChangeSpec := { name := "shrinkParts", fn := fun _ => fun
  | [d1, d2, d3] => { results := [.lit (.bool false)], args := [d1, d2, d3] }
  | _ => none }
def ShrinkPartsWrongFalsely : Prop := shrinkPartsRow.holds Try.pinned (OpenSpec.ofChange shrinkPartsWrong)

/-- 'runriglaw38.ShrinkSteps': WHATEVER THE INPUT: true; the input reads as it did. -/
def shrinkStepsSpec : ChangeSpec := { name := "shrinkSteps", fn := fun _ => fun
  | [d1, d2] => { results := [.lit (.bool true)], args := [d1, d2] }
  | _ => none }
def shrinkStepsRow : OpenClaim := { program := "ytokigldggkkbcaa", sum := "298eff0505d47b454529546399b106c656a229bfa33a7d5d02af7f559603c81a", func := "runrig/runriglaw38.ShrinkSteps", spec := "shrinkSteps", unfollowed := true, recurses := true, apart := false }
def ShrinkStepsSaid : Prop := shrinkStepsRow.holds Try.pinned (OpenSpec.ofChange shrinkStepsSpec)

/-- ITS FALSE NEIGHBOUR: 'it returns false'. Refute it at one input. -/
def shrinkStepsWrong : ChangeSpec := { name := "shrinkSteps", fn := fun _ => fun
  | [d1, d2] => { results := [.lit (.bool false)], args := [d1, d2] }
  | _ => none }
def ShrinkStepsWrongFalsely : Prop := shrinkStepsRow.holds Try.pinned (OpenSpec.ofChange shrinkStepsWrong)

/-- 'runriglaw38.ShrinkLeast': WHATEVER THE INPUT: true; the input reads as it did. -/
def shrinkLeastSpec : ChangeSpec := { name := "shrinkLeast", fn := fun _ => fun
  | [d1, d2, d3] => { results := [.lit (.bool true)], args := [d1, d2, d3] }
  | _ => none }
def shrinkLeastRow : OpenClaim := { program := "ytokigldggkkbcaa", sum := "298eff0505d47b454529546399b106c656a229bfa33a7d5d02af7f559603c81a", func := "runrig/runriglaw38.ShrinkLeast", spec := "shrinkLeast", unfollowed := true, recurses := true, apart := false }
def ShrinkLeastSaid : Prop := shrinkLeastRow.holds Try.pinned (OpenSpec.ofChange shrinkLeastSpec)

/-- ITS FALSE NEIGHBOUR: 'it returns false'. Refute it at one input. -/
def shrinkLeastWrong : ChangeSpec := { name := "shrinkLeast", fn := fun _ => fun
  | [d1, d2, d3] => { results := [.lit (.bool false)], args := [d1, d2, d3] }
  | _ => none }
def ShrinkLeastWrongFalsely : Prop := shrinkLeastRow.holds Try.pinned (OpenSpec.ofChange shrinkLeastWrong)

/-- 'runriglaw17.SendPlays': WHATEVER THE INPUT: true; the input reads as it did. -/
def sendPlaysSpec : ChangeSpec := { name := "sendPlays", fn := fun _ => fun
  | [d1, d2] => { results := [.lit (.bool true)], args := [d1, d2] }
  | _ => none }
def sendPlaysRow : OpenClaim := { program := "ytokigldggkkbcaa", sum := "298eff0505d47b454529546399b106c656a229bfa33a7d5d02af7f559603c81a", func := "runrig/runriglaw17.SendPlays", spec := "sendPlays", unfollowed := true, recurses := true, apart := false }
def SendPlaysSaid : Prop := sendPlaysRow.holds Try.pinned (OpenSpec.ofChange sendPlaysSpec)

/-- ITS FALSE NEIGHBOUR: 'it returns false'. Refute it at one input. -/
def sendPlaysWrong : ChangeSpec := { name := "sendPlays", fn := fun _ => fun
  | [d1, d2] => { results := [.lit (.bool false)], args := [d1, d2] }
  | _ => none }
def SendPlaysWrongFalsely : Prop := sendPlaysRow.holds Try.pinned (OpenSpec.ofChange sendPlaysWrong)

/-- 'runriglaw17.SendKeeps': WHATEVER THE INPUT: true; the input reads as it did. -/
def sendKeepsSpec : ChangeSpec := { name := "sendKeeps", fn := fun _ => fun
  | [d1, d2] => { results := [.lit (.bool true)], args := [d1, d2] }
  | _ => none }
def sendKeepsRow : OpenClaim := { program := "ytokigldggkkbcaa", sum := "298eff0505d47b454529546399b106c656a229bfa33a7d5d02af7f559603c81a", func := "runrig/runriglaw17.SendKeeps", spec := "sendKeeps", unfollowed := true, recurses := true, apart := false }
def SendKeepsSaid : Prop := sendKeepsRow.holds Try.pinned (OpenSpec.ofChange sendKeepsSpec)

/-- ITS FALSE NEIGHBOUR: 'it returns false'. Refute it at one input. -/
def sendKeepsWrong : ChangeSpec := { name := "sendKeeps", fn := fun _ => fun
  | [d1, d2] => { results := [.lit (.bool false)], args := [d1, d2] }
  | _ => none }
def SendKeepsWrongFalsely : Prop := sendKeepsRow.holds Try.pinned (OpenSpec.ofChange sendKeepsWrong)

/-- 'runriglaw38.ShrinkEach': WHATEVER THE INPUT: true; the input reads as it did. -/
def shrinkEachSpec : ChangeSpec := { name := "shrinkEach", fn := fun _ => fun
  | [d1, d2] => { results := [.lit (.bool true)], args := [d1, d2] }
  | _ => none }
def shrinkEachRow : OpenClaim := { program := "ytokigldggkkbcaa", sum := "298eff0505d47b454529546399b106c656a229bfa33a7d5d02af7f559603c81a", func := "runrig/runriglaw38.ShrinkEach", spec := "shrinkEach", unfollowed := true, recurses := true, apart := false }
def ShrinkEachSaid : Prop := shrinkEachRow.holds Try.pinned (OpenSpec.ofChange shrinkEachSpec)

/-- ITS FALSE NEIGHBOUR: 'it returns false'. Refute it at one input. -/
def shrinkEachWrong : ChangeSpec := { name := "shrinkEach", fn := fun _ => fun
  | [d1, d2] => { results := [.lit (.bool false)], args := [d1, d2] }
  | _ => none }
def ShrinkEachWrongFalsely : Prop := shrinkEachRow.holds Try.pinned (OpenSpec.ofChange shrinkEachWrong)

/-- 'runriglaw18.RecvBoth': WHATEVER THE INPUT: true; the input reads as it did. -/
def recvBothSpec : ChangeSpec := { name := "recvBoth", fn := fun _ => fun
  | [d1, d2, d3] => { results := [.lit (.bool true)], args := [d1, d2, d3] }
  | _ => none }
def recvBothRow : OpenClaim := { program := "ytokigldggkkbcaa", sum := "298eff0505d47b454529546399b106c656a229bfa33a7d5d02af7f559603c81a", func := "runrig/runriglaw18.RecvBoth", spec := "recvBoth", unfollowed := true, recurses := true, apart := false }
def RecvBothSaid : Prop := recvBothRow.holds Try.pinned (OpenSpec.ofChange recvBothSpec)

/-- ITS FALSE NEIGHBOUR: 'it returns false'. Refute it at one input. -/
def recvBothWrong : ChangeSpec := { name := "recvBoth", fn := fun _ => fun
  | [d1, d2, d3] => { results := [.lit (.bool false)], args := [d1, d2, d3] }
  | _ => none }
def RecvBothWrongFalsely : Prop := recvBothRow.holds Try.pinned (OpenSpec.ofChange recvBothWrong)

/- THE SECOND FORM. 'bulk': how many values and letters a reading holds, each counted each time it is reached (what is shared counts as often as it is met; a slice's spare places count too). A statement '..UptoSaid' is the law's where the arguments, and the package variables that the reading takes, are together of bulk at most 1048576: NARROWER than '..Said'. Prove '..Said' where nothing that the law and all that it calls make is longer than what came in: it says more and counts as full. Else prove '..UptoSaid'. A law counts once. -/
mutual
def uptoBulk {H : Type} : DataW H → Nat
  | .lit (.string bytes) => bytes.length + 1
  | .lit _ => 1
  | .nil => 1
  | .ptr d => uptoBulk d + 1
  | .slice elems spare => uptoBulkAll elems + uptoBulkAll spare + 1
  | .agg parts => uptoBulkAll parts + 1
  | .iface _ d => uptoBulk d + 1
  | .map entries => uptoBulkEntries entries + 1
  | .held _ => 1
def uptoBulkAll {H : Type} : List (DataW H) → Nat
  | [] => 0
  | d :: r => uptoBulk d + uptoBulkAll r
def uptoBulkEntries {H : Type} : List (Lit × DataW H) → Nat
  | [] => 0
  | x :: r => uptoBulkEntry x + uptoBulkEntries r
def uptoBulkEntry {H : Type} : Lit × DataW H → Nat
  | (.string bytes, d) => bytes.length + uptoBulk d + 1
  | (_, d) => uptoBulk d + 1
 end
def uptoSmall : (H : Type) → List (DataW H) → Bool := fun _ ds => decide (uptoBulkAll ds ≤ 1048576)
def OpenSpec.upto (s : _root_.Go.ChangeSpec) : _root_.Go.OpenSpec := { _root_.Go.OpenSpec.ofChange s with cond := some uptoSmall }

/-- 'runriglaw18.RecvOrder', WHERE WHAT IT READS IS OF BULK AT MOST 1048576: true; the input reads as it did. -/
def recvOrderUptoRow : OpenClaim := { program := "ytokigldggkkbcaa", sum := "298eff0505d47b454529546399b106c656a229bfa33a7d5d02af7f559603c81a", func := "runrig/runriglaw18.RecvOrder", spec := "recvOrder", apart := false, narrowed := true }
def RecvOrderUptoSaid : Prop := recvOrderUptoRow.holds Try.pinned (OpenSpec.upto recvOrderSpec)

/-- 'runriglaw18.RecvPlays', WHERE WHAT IT READS IS OF BULK AT MOST 1048576: true; the input reads as it did. -/
def recvPlaysUptoRow : OpenClaim := { program := "ytokigldggkkbcaa", sum := "298eff0505d47b454529546399b106c656a229bfa33a7d5d02af7f559603c81a", func := "runrig/runriglaw18.RecvPlays", spec := "recvPlays", apart := false, narrowed := true }
def RecvPlaysUptoSaid : Prop := recvPlaysUptoRow.holds Try.pinned (OpenSpec.upto recvPlaysSpec)

/-- 'runriglaw05.RingPlays', WHERE WHAT IT READS IS OF BULK AT MOST 1048576: true; the input reads as it did. -/
def ringPlaysUptoRow : OpenClaim := { program := "ytokigldggkkbcaa", sum := "298eff0505d47b454529546399b106c656a229bfa33a7d5d02af7f559603c81a", func := "runrig/runriglaw05.RingPlays", spec := "ringPlays", apart := false, narrowed := true }
def RingPlaysUptoSaid : Prop := ringPlaysUptoRow.holds Try.pinned (OpenSpec.upto ringPlaysSpec)

/-- 'runriglaw05.RingOrder', WHERE WHAT IT READS IS OF BULK AT MOST 1048576: true; the input reads as it did. -/
def ringOrderUptoRow : OpenClaim := { program := "ytokigldggkkbcaa", sum := "298eff0505d47b454529546399b106c656a229bfa33a7d5d02af7f559603c81a", func := "runrig/runriglaw05.RingOrder", spec := "ringOrder", apart := false, narrowed := true }
def RingOrderUptoSaid : Prop := ringOrderUptoRow.holds Try.pinned (OpenSpec.upto ringOrderSpec)

/-- 'runriglaw38.ShrinkParts', WHERE WHAT IT READS IS OF BULK AT MOST 1048576: true; the input reads as it did. -/
def shrinkPartsUptoRow : OpenClaim := { program := "ytokigldggkkbcaa", sum := "298eff0505d47b454529546399b106c656a229bfa33a7d5d02af7f559603c81a", func := "runrig/runriglaw38.ShrinkParts", spec := "shrinkParts", unfollowed := true, recurses := true, apart := false, narrowed := true }
def ShrinkPartsUptoSaid : Prop := shrinkPartsUptoRow.holds Try.pinned (OpenSpec.upto shrinkPartsSpec)

/-- 'runriglaw38.ShrinkSteps', WHERE WHAT IT READS IS OF BULK AT MOST 1048576: true; the input reads as it did. -/
def shrinkStepsUptoRow : OpenClaim := { program := "ytokigldggkkbcaa", sum := "298eff0505d47b454529546399b106c656a229bfa33a7d5d02af7f559603c81a", func := "runrig/runriglaw38.ShrinkSteps", spec := "shrinkSteps", unfollowed := true, recurses := true, apart := false, narrowed := true }
def ShrinkStepsUptoSaid : Prop := shrinkStepsUptoRow.holds Try.pinned (OpenSpec.upto shrinkStepsSpec)

/-- 'runriglaw38.ShrinkLeast', WHERE WHAT IT READS IS OF BULK AT MOST 1048576: true; the input reads as it did. -/
def shrinkLeastUptoRow : OpenClaim := { program := "ytokigldggkkbcaa", sum := "298eff0505d47b454529546399b106c656a229bfa33a7d5d02af7f559603c81a", func := "runrig/runriglaw38.ShrinkLeast", spec := "shrinkLeast", unfollowed := true, recurses := true, apart := false, narrowed := true }
def ShrinkLeastUptoSaid : Prop := shrinkLeastUptoRow.holds Try.pinned (OpenSpec.upto shrinkLeastSpec)

/-- 'runriglaw17.SendPlays', WHERE WHAT IT READS IS OF BULK AT MOST 1048576: true; the input reads as it did. -/
def sendPlaysUptoRow : OpenClaim := { program := "ytokigldggkkbcaa", sum := "298eff0505d47b454529546399b106c656a229bfa33a7d5d02af7f559603c81a", func := "runrig/runriglaw17.SendPlays", spec := "sendPlays", unfollowed := true, recurses := true, apart := false, narrowed := true }
def SendPlaysUptoSaid : Prop := sendPlaysUptoRow.holds Try.pinned (OpenSpec.upto sendPlaysSpec)

/-- 'runriglaw17.SendKeeps', WHERE WHAT IT READS IS OF BULK AT MOST 1048576: true; the input reads as it did. -/
def sendKeepsUptoRow : OpenClaim := { program := "ytokigldggkkbcaa", sum := "298eff0505d47b454529546399b106c656a229bfa33a7d5d02af7f559603c81a", func := "runrig/runriglaw17.SendKeeps", spec := "sendKeeps", unfollowed := true, recurses := true, apart := false, narrowed := true }
def SendKeepsUptoSaid : Prop := sendKeepsUptoRow.holds Try.pinned (OpenSpec.upto sendKeepsSpec)

/-- 'runriglaw38.ShrinkEach', WHERE WHAT IT READS IS OF BULK AT MOST 1048576: true; the input reads as it did. -/
def shrinkEachUptoRow : OpenClaim := { program := "ytokigldggkkbcaa", sum := "298eff0505d47b454529546399b106c656a229bfa33a7d5d02af7f559603c81a", func := "runrig/runriglaw38.ShrinkEach", spec := "shrinkEach", unfollowed := true, recurses := true, apart := false, narrowed := true }
def ShrinkEachUptoSaid : Prop := shrinkEachUptoRow.holds Try.pinned (OpenSpec.upto shrinkEachSpec)

/-- 'runriglaw18.RecvBoth', WHERE WHAT IT READS IS OF BULK AT MOST 1048576: true; the input reads as it did. -/
def recvBothUptoRow : OpenClaim := { program := "ytokigldggkkbcaa", sum := "298eff0505d47b454529546399b106c656a229bfa33a7d5d02af7f559603c81a", func := "runrig/runriglaw18.RecvBoth", spec := "recvBoth", unfollowed := true, recurses := true, apart := false, narrowed := true }
def RecvBothUptoSaid : Prop := recvBothUptoRow.holds Try.pinned (OpenSpec.upto recvBothSpec)

end Rows
end Go.Proofs.Ytokigldggkkbcaa
