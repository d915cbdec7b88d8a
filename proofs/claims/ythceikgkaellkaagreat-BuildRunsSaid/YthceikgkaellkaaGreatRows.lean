/-
  No cell of these rows narrows 'for every input' (looked for: loops, veiled, ifaces, maps, wideKeys, modest, calm, conditions, laid).
  DERIVED. THE GIVEN ROWS OF THIS SEAT. 6 by the template 'for every input the law returns true; each argument reads behind the call as it read before'; 0 by the template 'total and deterministic' (their statements: YthceikgkaellkaaGreatTotals.lean).
  GIVEN WITH THE SEED: the statements are not yours to turn. If you find one false, say at which input.
  Laid BY PROGRAM, IN A SANDBOX (cutbox-rows.mjs): the forced cells as the released guide's own fill.sh prints them over the translation 3934629078e47ba0… (all of the seat's roots in one cut). By AI agents, Wed Nov 11 2026. No macro, syntax, notation, axiom, sorry.
-/
import Derived.Test.YthceikgkaellkaaGreatChecked
import GoSem.Claim
import GoSem.ClaimJoined
import GoSem.ClaimMapViews
import Derived.JoinedTies
import Derived.KernelRfl
namespace Go.Proofs.YthceikgkaellkaaGreat
/- THE CELL 'sum', in the pinned program and in every row, IS THE sha256 OF THE DUMP (.gsa) THAT YthceikgkaellkaaGreatProg.lean LOADS. Nothing in Lean hashes anything: it is a label: what it is worth is what the hold of that sum in a sandbox is worth. -/
noncomputable def Tryz.pinned : Pinned := { name := "ythceikgkaellkaagreat", sum := "3934629078e47ba0effb5a648ad19a47292cb2c4e4b983e6e4d34d20c9df03b6", checked := Tryz.checked }
namespace Rows
def none {H : Type} : Left H := { results := [], args := [] }

/-- 'runriglaw22.CoreStops': WHATEVER THE INPUT: true; the input reads as it did. -/
def coreStopsSpec : ChangeSpec := { name := "coreStops", fn := fun _ => fun
  | [d1, d2, d3] => { results := [.lit (.bool true)], args := [d1, d2, d3] }
  | _ => none }
def coreStopsRow : OpenClaim := { program := "ythceikgkaellkaagreat", sum := "3934629078e47ba0effb5a648ad19a47292cb2c4e4b983e6e4d34d20c9df03b6", func := "runrig/runriglaw22.CoreStops", spec := "coreStops", inPlace := ["math.Float32frombits", "math.Float32bits"], unfollowed := true, recurses := true, apart := false }
def CoreStopsSaid : Prop := coreStopsRow.holds Tryz.pinned (OpenSpec.ofChange coreStopsSpec)

/-- ITS FALSE NEIGHBOUR: 'it returns false'. Refute it at one input. -/
def coreStopsWrong : ChangeSpec := { name := "coreStops", fn := fun _ => fun
  | [d1, d2, d3] => { results := [.lit (.bool false)], args := [d1, d2, d3] }
  | _ => none }
def CoreStopsWrongFalsely : Prop := coreStopsRow.holds Tryz.pinned (OpenSpec.ofChange coreStopsWrong)

/-- 'runriglaw22.CoreAgain': WHATEVER THE INPUT: true; the input reads as it did. -/
def coreAgainSpec : ChangeSpec := { name := "coreAgain", fn := fun _ => fun
  | [d1, d2, d3] => { results := [.lit (.bool true)], args := [d1, d2, d3] }
  | _ => none }
def coreAgainRow : OpenClaim := { program := "ythceikgkaellkaagreat", sum := "3934629078e47ba0effb5a648ad19a47292cb2c4e4b983e6e4d34d20c9df03b6", func := "runrig/runriglaw22.CoreAgain", spec := "coreAgain", inPlace := ["math.Float32frombits", "math.Float32bits"], unfollowed := true, recurses := true, apart := false }
def CoreAgainSaid : Prop := coreAgainRow.holds Tryz.pinned (OpenSpec.ofChange coreAgainSpec)

/-- ITS FALSE NEIGHBOUR: 'it returns false'. Refute it at one input. -/
def coreAgainWrong : ChangeSpec := { name := "coreAgain", fn := fun _ => fun
  | [d1, d2, d3] => { results := [.lit (.bool false)], args := [d1, d2, d3] }
  | _ => none }
def CoreAgainWrongFalsely : Prop := coreAgainRow.holds Tryz.pinned (OpenSpec.ofChange coreAgainWrong)

/-- 'runriglaw39.BuildConsts': WHATEVER THE INPUT: true; the input reads as it did. -/
def buildConstsSpec : ChangeSpec := { name := "buildConsts", fn := fun _ => fun
  | [d1, d2, d3] => { results := [.lit (.bool true)], args := [d1, d2, d3] }
  | _ => none }
def buildConstsRow : OpenClaim := { program := "ythceikgkaellkaagreat", sum := "3934629078e47ba0effb5a648ad19a47292cb2c4e4b983e6e4d34d20c9df03b6", func := "runrig/runriglaw39.BuildConsts", spec := "buildConsts", inPlace := ["math.Float32frombits", "math.Float32bits"], unfollowed := true, recurses := true, apart := false }
def BuildConstsSaid : Prop := buildConstsRow.holds Tryz.pinned (OpenSpec.ofChange buildConstsSpec)

/-- ITS FALSE NEIGHBOUR: 'it returns false'. Refute it at one input. -/
def buildConstsWrong : ChangeSpec := { name := "buildConsts", fn := fun _ => fun
  | [d1, d2, d3] => { results := [.lit (.bool false)], args := [d1, d2, d3] }
  | _ => none }
def BuildConstsWrongFalsely : Prop := buildConstsRow.holds Tryz.pinned (OpenSpec.ofChange buildConstsWrong)

/-- 'runriglaw39.BuildRuns': WHATEVER THE INPUT: true; the input reads as it did. -/
def buildRunsSpec : ChangeSpec := { name := "buildRuns", fn := fun _ => fun
  | [d1, d2, d3] => { results := [.lit (.bool true)], args := [d1, d2, d3] }
  | _ => none }
def buildRunsRow : OpenClaim := { program := "ythceikgkaellkaagreat", sum := "3934629078e47ba0effb5a648ad19a47292cb2c4e4b983e6e4d34d20c9df03b6", func := "runrig/runriglaw39.BuildRuns", spec := "buildRuns", inPlace := ["math.Float32frombits", "math.Float32bits"], unfollowed := true, recurses := true, apart := false }
def BuildRunsSaid : Prop := buildRunsRow.holds Tryz.pinned (OpenSpec.ofChange buildRunsSpec)

/-- ITS FALSE NEIGHBOUR: 'it returns false'. Refute it at one input. -/
def buildRunsWrong : ChangeSpec := { name := "buildRuns", fn := fun _ => fun
  | [d1, d2, d3] => { results := [.lit (.bool false)], args := [d1, d2, d3] }
  | _ => none }
def BuildRunsWrongFalsely : Prop := buildRunsRow.holds Tryz.pinned (OpenSpec.ofChange buildRunsWrong)

/-- 'runriglaw39.BuildNests': WHATEVER THE INPUT: true; the input reads as it did. -/
def buildNestsSpec : ChangeSpec := { name := "buildNests", fn := fun _ => fun
  | [d1, d2, d3] => { results := [.lit (.bool true)], args := [d1, d2, d3] }
  | _ => none }
def buildNestsRow : OpenClaim := { program := "ythceikgkaellkaagreat", sum := "3934629078e47ba0effb5a648ad19a47292cb2c4e4b983e6e4d34d20c9df03b6", func := "runrig/runriglaw39.BuildNests", spec := "buildNests", inPlace := ["math.Float32frombits", "math.Float32bits"], unfollowed := true, recurses := true, apart := false }
def BuildNestsSaid : Prop := buildNestsRow.holds Tryz.pinned (OpenSpec.ofChange buildNestsSpec)

/-- ITS FALSE NEIGHBOUR: 'it returns false'. Refute it at one input. -/
def buildNestsWrong : ChangeSpec := { name := "buildNests", fn := fun _ => fun
  | [d1, d2, d3] => { results := [.lit (.bool false)], args := [d1, d2, d3] }
  | _ => none }
def BuildNestsWrongFalsely : Prop := buildNestsRow.holds Tryz.pinned (OpenSpec.ofChange buildNestsWrong)

/-- 'runriglaw31.FlowRuns': WHATEVER THE INPUT: true; the input reads as it did. -/
def flowRunsSpec : ChangeSpec := { name := "flowRuns", fn := fun _ => fun
  | [d1, d2] => { results := [.lit (.bool true)], args := [d1, d2] }
  | _ => none }
def flowRunsRow : OpenClaim := { program := "ythceikgkaellkaagreat", sum := "3934629078e47ba0effb5a648ad19a47292cb2c4e4b983e6e4d34d20c9df03b6", func := "runrig/runriglaw31.FlowRuns", spec := "flowRuns", inPlace := ["math.Float32frombits", "math.Float32bits"], unfollowed := true, recurses := true, apart := false }
def FlowRunsSaid : Prop := flowRunsRow.holds Tryz.pinned (OpenSpec.ofChange flowRunsSpec)

/-- ITS FALSE NEIGHBOUR: 'it returns false'. Refute it at one input. -/
def flowRunsWrong : ChangeSpec := { name := "flowRuns", fn := fun _ => fun
  | [d1, d2] => { results := [.lit (.bool false)], args := [d1, d2] }
  | _ => none }
def FlowRunsWrongFalsely : Prop := flowRunsRow.holds Tryz.pinned (OpenSpec.ofChange flowRunsWrong)

/- THE SECOND FORM. 'bulk': how many values and letters a reading holds, each counted each time it is reached (what is shared counts as often as it is met; a slice's spare places count too). A statement '..UptoSaid' is the law's where the arguments, and the package variables that the reading takes, are together of bulk at most 1048576: NARROWER than '..Said'. Prove '..Said' where nothing that the law and all that it calls make is longer than what came in: it says more and counts as full. Else prove '..UptoSaid'. A law counts once. -/
mutual
def uptoBulk {H : Type} : DataW H → Nat
  | .lit (.string bytes) => bytes.length + 1
  | .lit _ => 1
  | .nil => 1
  | .ptr d => uptoBulk d + 1
  | .slice elems spare => uptoBulkAll elems + uptoBulkAll spare + 1
  | .agg parts => uptoBulkAll parts + 1
  | .iface _ d => uptoBulk d + 1
  | .map entries => uptoBulkEntries entries + 1
  | .held _ => 1
def uptoBulkAll {H : Type} : List (DataW H) → Nat
  | [] => 0
  | d :: r => uptoBulk d + uptoBulkAll r
def uptoBulkEntries {H : Type} : List (Lit × DataW H) → Nat
  | [] => 0
  | x :: r => uptoBulkEntry x + uptoBulkEntries r
def uptoBulkEntry {H : Type} : Lit × DataW H → Nat
  | (.string bytes, d) => bytes.length + uptoBulk d + 1
  | (_, d) => uptoBulk d + 1
 end
def uptoSmall : (H : Type) → List (DataW H) → Bool := fun _ ds => decide (uptoBulkAll ds ≤ 1048576)
def OpenSpec.upto (s : _root_.Go.ChangeSpec) : _root_.Go.OpenSpec := { _root_.Go.OpenSpec.ofChange s with cond := some uptoSmall }

/-- 'runriglaw22.CoreStops', WHERE WHAT IT READS IS OF BULK AT MOST 1048576: true; the input reads as it did. -/
def coreStopsUptoRow : OpenClaim := { program := "ythceikgkaellkaagreat", sum := "3934629078e47ba0effb5a648ad19a47292cb2c4e4b983e6e4d34d20c9df03b6", func := "runrig/runriglaw22.CoreStops", spec := "coreStops", inPlace := ["math.Float32frombits", "math.Float32bits"], unfollowed := true, recurses := true, apart := false, narrowed := true }
def CoreStopsUptoSaid : Prop := coreStopsUptoRow.holds Tryz.pinned (OpenSpec.upto coreStopsSpec)

/-- 'runriglaw22.CoreAgain', WHERE WHAT IT READS IS OF BULK AT MOST 1048576: true; the input reads as it did. -/
def coreAgainUptoRow : OpenClaim := { program := "ythceikgkaellkaagreat", sum := "3934629078e47ba0effb5a648ad19a47292cb2c4e4b983e6e4d34d20c9df03b6", func := "runrig/runriglaw22.CoreAgain", spec := "coreAgain", inPlace := ["math.Float32frombits", "math.Float32bits"], unfollowed := true, recurses := true, apart := false, narrowed := true }
def CoreAgainUptoSaid : Prop := coreAgainUptoRow.holds Tryz.pinned (OpenSpec.upto coreAgainSpec)

/-- 'runriglaw39.BuildConsts', WHERE WHAT IT READS IS OF BULK AT MOST 1048576: true; the input reads as it did. -/
def buildConstsUptoRow : OpenClaim := { program := "ythceikgkaellkaagreat", sum := "3934629078e47ba0effb5a648ad19a47292cb2c4e4b983e6e4d34d20c9df03b6", func := "runrig/runriglaw39.BuildConsts", spec := "buildConsts", inPlace := ["math.Float32frombits", "math.Float32bits"], unfollowed := true, recurses := true, apart := false, narrowed := true }
def BuildConstsUptoSaid : Prop := buildConstsUptoRow.holds Tryz.pinned (OpenSpec.upto buildConstsSpec)

/-- 'runriglaw39.BuildRuns', WHERE WHAT IT READS IS OF BULK AT MOST 1048576: true; the input reads as it did. -/
def buildRunsUptoRow : OpenClaim := { program := "ythceikgkaellkaagreat", sum := "3934629078e47ba0effb5a648ad19a47292cb2c4e4b983e6e4d34d20c9df03b6", func := "runrig/runriglaw39.BuildRuns", spec := "buildRuns", inPlace := ["math.Float32frombits", "math.Float32bits"], unfollowed := true, recurses := true, apart := false, narrowed := true }
def BuildRunsUptoSaid : Prop := buildRunsUptoRow.holds Tryz.pinned (OpenSpec.upto buildRunsSpec)

/-- 'runriglaw39.BuildNests', WHERE WHAT IT READS IS OF BULK AT MOST 1048576: true; the input reads as it did. -/
def buildNestsUptoRow : OpenClaim := { program := "ythceikgkaellkaagreat", sum := "3934629078e47ba0effb5a648ad19a47292cb2c4e4b983e6e4d34d20c9df03b6", func := "runrig/runriglaw39.BuildNests", spec := "buildNests", inPlace := ["math.Float32frombits", "math.Float32bits"], unfollowed := true, recurses := true, apart := false, narrowed := true }
def BuildNestsUptoSaid : Prop := buildNestsUptoRow.holds Tryz.pinned (OpenSpec.upto buildNestsSpec)

/-- 'runriglaw31.FlowRuns', WHERE WHAT IT READS IS OF BULK AT MOST 1048576: true; the input reads as it did. -/
def flowRunsUptoRow : OpenClaim := { program := "ythceikgkaellkaagreat", sum := "3934629078e47ba0effb5a648ad19a47292cb2c4e4b983e6e4d34d20c9df03b6", func := "runrig/runriglaw31.FlowRuns", spec := "flowRuns", inPlace := ["math.Float32frombits", "math.Float32bits"], unfollowed := true, recurses := true, apart := false, narrowed := true }
def FlowRunsUptoSaid : Prop := flowRunsUptoRow.holds Tryz.pinned (OpenSpec.upto flowRunsSpec)

end Rows
end Go.Proofs.YthceikgkaellkaaGreat
