/-
  No cell of these rows narrows 'for every input' (looked for: loops, veiled, ifaces, maps, wideKeys, modest, calm, conditions, laid).
  DERIVED. THE GIVEN ROWS OF THIS SEAT. 6 by the template 'for every input the law returns true; each argument reads behind the call as it read before'; 0 by the template 'total and deterministic' (their statements: YtdkplhdinklflaaTotals.lean).
  GIVEN WITH THE SEED: the statements are not yours to turn. If you find one false, say at which input.
  Laid BY PROGRAM, IN A SANDBOX (cutbox-rows.mjs): the forced cells as the released guide's own fill.sh prints them over the translation 0a4d4be6db691357… (all of the seat's roots in one cut). By AI agents, Wed Nov 11 2026. No macro, syntax, notation, axiom, sorry.
-/
import Derived.Test.YtdkplhdinklflaaChecked
import GoSem.Claim
import GoSem.ClaimJoined
import GoSem.ClaimMapViews
import Derived.JoinedTies
import Derived.KernelRfl
namespace Go.Proofs.Ytdkplhdinklflaa
/- THE CELL 'sum', in the pinned program and in every row, IS THE sha256 OF THE DUMP (.gsa) THAT YtdkplhdinklflaaProg.lean LOADS. Nothing in Lean hashes anything: it is a label: what it is worth is what the hold of that sum in a sandbox is worth. -/
noncomputable def Try.pinned : Pinned := { name := "ytdkplhdinklflaa", sum := "0a4d4be6db691357c7531275583b0ee3627cc02ce7e10afb62d7a1c73daec8a5", checked := Try.checked }
namespace Rows
def none {H : Type} : Left H := { results := [], args := [] }

/-- 'runriglaw39.BuildLocks': WHATEVER THE INPUT: true; the input reads as it did. -/
def buildLocksSpec : ChangeSpec := { name := "buildLocks", fn := fun _ => fun
  | [d1, d2] => { results := [.lit (.bool true)], args := [d1, d2] }
  | _ => none }
def buildLocksRow : OpenClaim := { program := "ytdkplhdinklflaa", sum := "0a4d4be6db691357c7531275583b0ee3627cc02ce7e10afb62d7a1c73daec8a5", func := "runrig/runriglaw39.BuildLocks", spec := "buildLocks", recurses := true, apart := false }
def BuildLocksSaid : Prop := buildLocksRow.holds Try.pinned (OpenSpec.ofChange buildLocksSpec)

/-- ITS FALSE NEIGHBOUR: 'it returns false'. Refute it at one input. -/
def buildLocksWrong : ChangeSpec := { name := "buildLocks", fn := fun _ => fun
  | [d1, d2] => { results := [.lit (.bool false)], args := [d1, d2] }
  | _ => none }
def BuildLocksWrongFalsely : Prop := buildLocksRow.holds Try.pinned (OpenSpec.ofChange buildLocksWrong)

/-- 'runriglaw39.BuildPieces': WHATEVER THE INPUT: true; the input reads as it did. -/
def buildPiecesSpec : ChangeSpec := { name := "buildPieces", fn := fun _ => fun
  | [d1, d2, d3] => { results := [.lit (.bool true)], args := [d1, d2, d3] }
  | _ => none }
def buildPiecesRow : OpenClaim := { program := "ytdkplhdinklflaa", sum := "0a4d4be6db691357c7531275583b0ee3627cc02ce7e10afb62d7a1c73daec8a5", func := "runrig/runriglaw39.BuildPieces", spec := "buildPieces", recurses := true, apart := false }
def BuildPiecesSaid : Prop := buildPiecesRow.holds Try.pinned (OpenSpec.ofChange buildPiecesSpec)

/-- ITS FALSE NEIGHBOUR: 'it returns false'. Refute it at one input. -/
def buildPiecesWrong : ChangeSpec := { name := "buildPieces", fn := fun _ => fun
  | [d1, d2, d3] => { results := [.lit (.bool false)], args := [d1, d2, d3] }
  | _ => none }
def BuildPiecesWrongFalsely : Prop := buildPiecesRow.holds Try.pinned (OpenSpec.ofChange buildPiecesWrong)

/-- 'runriglaw39.BuildWords': WHATEVER THE INPUT: true; the input reads as it did. -/
def buildWordsSpec : ChangeSpec := { name := "buildWords", fn := fun _ => fun
  | [d1, d2] => { results := [.lit (.bool true)], args := [d1, d2] }
  | _ => none }
def buildWordsRow : OpenClaim := { program := "ytdkplhdinklflaa", sum := "0a4d4be6db691357c7531275583b0ee3627cc02ce7e10afb62d7a1c73daec8a5", func := "runrig/runriglaw39.BuildWords", spec := "buildWords", recurses := true, apart := false }
def BuildWordsSaid : Prop := buildWordsRow.holds Try.pinned (OpenSpec.ofChange buildWordsSpec)

/-- ITS FALSE NEIGHBOUR: 'it returns false'. Refute it at one input. -/
def buildWordsWrong : ChangeSpec := { name := "buildWords", fn := fun _ => fun
  | [d1, d2] => { results := [.lit (.bool false)], args := [d1, d2] }
  | _ => none }
def BuildWordsWrongFalsely : Prop := buildWordsRow.holds Try.pinned (OpenSpec.ofChange buildWordsWrong)

/-- 'runriglaw31.FlowBlocks': WHATEVER THE INPUT: true; the input reads as it did. -/
def flowBlocksSpec : ChangeSpec := { name := "flowBlocks", fn := fun _ => fun
  | [d1, d2] => { results := [.lit (.bool true)], args := [d1, d2] }
  | _ => none }
def flowBlocksRow : OpenClaim := { program := "ytdkplhdinklflaa", sum := "0a4d4be6db691357c7531275583b0ee3627cc02ce7e10afb62d7a1c73daec8a5", func := "runrig/runriglaw31.FlowBlocks", spec := "flowBlocks", unfollowed := true, recurses := true, apart := false }
def FlowBlocksSaid : Prop := flowBlocksRow.holds Try.pinned (OpenSpec.ofChange flowBlocksSpec)

/-- ITS FALSE NEIGHBOUR: 'it returns false'. Refute it at one input. -/
def flowBlocksWrong : ChangeSpec := { name := "flowBlocks", fn := fun _ => fun
  | [d1, d2] => { results := [.lit (.bool false)], args := [d1, d2] }
  | _ => none }
def FlowBlocksWrongFalsely : Prop := flowBlocksRow.holds Try.pinned (OpenSpec.ofChange flowBlocksWrong)

/-- 'runriglaw31.FlowReaches': WHATEVER THE INPUT: true; the input reads as it did. -/
def flowReachesSpec : ChangeSpec := { name := "flowReaches", fn := fun _ => fun
  | [d] => { results := [.lit (.bool true)], args := [d] }
  | _ => none }
def flowReachesRow : OpenClaim := { program := "ytdkplhdinklflaa", sum := "0a4d4be6db691357c7531275583b0ee3627cc02ce7e10afb62d7a1c73daec8a5", func := "runrig/runriglaw31.FlowReaches", spec := "flowReaches", unfollowed := true, recurses := true, apart := false }
def FlowReachesSaid : Prop := flowReachesRow.holds Try.pinned (OpenSpec.ofChange flowReachesSpec)

/-- ITS FALSE NEIGHBOUR: 'it returns false'. Refute it at one input. -/
def flowReachesWrong : ChangeSpec := { name := "flowReaches", fn := fun _ => fun
  | [d] => { results := [.lit (.bool false)], args := [d] }
  | _ => none }
def FlowReachesWrongFalsely : Prop := flowReachesRow.holds Try.pinned (OpenSpec.ofChange flowReachesWrong)

/-- 'runriglaw31.FlowRegisters': WHATEVER THE INPUT: true; the input reads as it did. -/
def flowRegistersSpec : ChangeSpec := { name := "flowRegisters", fn := fun _ => fun
  | [d] => { results := [.lit (.bool true)], args := [d] }
  | _ => none }
def flowRegistersRow : OpenClaim := { program := "ytdkplhdinklflaa", sum := "0a4d4be6db691357c7531275583b0ee3627cc02ce7e10afb62d7a1c73daec8a5", func := "runrig/runriglaw31.FlowRegisters", spec := "flowRegisters", unfollowed := true, recurses := true, apart := false }
def FlowRegistersSaid : Prop := flowRegistersRow.holds Try.pinned (OpenSpec.ofChange flowRegistersSpec)

/-- ITS FALSE NEIGHBOUR: 'it returns false'. Refute it at one input. -/
def flowRegistersWrong : ChangeSpec := { name := "flowRegisters", fn := fun _ => fun
  | [d] => { results := [.lit (.bool false)], args := [d] }
  | _ => none }
def FlowRegistersWrongFalsely : Prop := flowRegistersRow.holds Try.pinned (OpenSpec.ofChange flowRegistersWrong)

/- THE SECOND FORM. 'bulk': how many values and letters a reading holds, each counted each time it is reached (what is shared counts as often as it is met; a slice's spare places count too). A statement '..UptoSaid' is the law's where the arguments, and the package variables that the reading takes, are together of bulk at most 1048576: NARROWER than '..Said'. Prove '..Said' where nothing that the law and all that it calls make is longer than what came in: it says more and counts as full. Else prove '..UptoSaid'. A law counts once. -/
mutual
def uptoBulk {H : Type} : DataW H → Nat
  | .lit (.string bytes) => bytes.length + 1
  | .lit _ => 1
  | .nil => 1
  | .ptr d => uptoBulk d + 1
  | .slice elems spare => uptoBulkAll elems + uptoBulkAll spare + 1
  | .agg parts => uptoBulkAll parts + 1
  | .iface _ d => uptoBulk d + 1
  | .map entries => uptoBulkEntries entries + 1
  | .held _ => 1
def uptoBulkAll {H : Type} : List (DataW H) → Nat
  | [] => 0
  | d :: r => uptoBulk d + uptoBulkAll r
def uptoBulkEntries {H : Type} : List (Lit × DataW H) → Nat
  | [] => 0
  | x :: r => uptoBulkEntry x + uptoBulkEntries r
def uptoBulkEntry {H : Type} : Lit × DataW H → Nat
  | (.string bytes, d) => bytes.length + uptoBulk d + 1
  | (_, d) => uptoBulk d + 1
 end
def uptoSmall : (H : Type) → List (DataW H) → Bool := fun _ ds => decide (uptoBulkAll ds ≤ 1048576)
def OpenSpec.upto (s : _root_.Go.ChangeSpec) : _root_.Go.OpenSpec := { _root_.Go.OpenSpec.ofChange s with cond := some uptoSmall }

/-- 'runriglaw39.BuildLocks', WHERE WHAT IT READS IS OF BULK AT MOST 1048576: true; the input reads as it did. -/
def buildLocksUptoRow : OpenClaim := { program := "ytdkplhdinklflaa", sum := "0a4d4be6db691357c7531275583b0ee3627cc02ce7e10afb62d7a1c73daec8a5", func := "runrig/runriglaw39.BuildLocks", spec := "buildLocks", recurses := true, apart := false, narrowed := true }
def BuildLocksUptoSaid : Prop := buildLocksUptoRow.holds Try.pinned (OpenSpec.upto buildLocksSpec)

/-- 'runriglaw39.BuildPieces', WHERE WHAT IT READS IS OF BULK AT MOST 1048576: true; the input reads as it did. -/
def buildPiecesUptoRow : OpenClaim := { program := "ytdkplhdinklflaa", sum := "0a4d4be6db691357c7531275583b0ee3627cc02ce7e10afb62d7a1c73daec8a5", func := "runrig/runriglaw39.BuildPieces", spec := "buildPieces", recurses := true, apart := false, narrowed := true }
def BuildPiecesUptoSaid : Prop := buildPiecesUptoRow.holds Try.pinned (OpenSpec.upto buildPiecesSpec)

/-- 'runriglaw39.BuildWords', WHERE WHAT IT READS IS OF BULK AT MOST 1048576: true; the input reads as it did. -/
def buildWordsUptoRow : OpenClaim := { program := "ytdkplhdinklflaa", sum := "0a4d4be6db691357c7531275583b0ee3627cc02ce7e10afb62d7a1c73daec8a5", func := "runrig/runriglaw39.BuildWords", spec := "buildWords", recurses := true, apart := false, narrowed := true }
def BuildWordsUptoSaid : Prop := buildWordsUptoRow.holds Try.pinned (OpenSpec.upto buildWordsSpec)

/-- 'runriglaw31.FlowBlocks', WHERE WHAT IT READS IS OF BULK AT MOST 1048576: true; the input reads as it did. -/
def flowBlocksUptoRow : OpenClaim := { program := "ytdkplhdinklflaa", sum := "0a4d4be6db691357c7531275583b0ee3627cc02ce7e10afb62d7a1c73daec8a5", func := "runrig/runriglaw31.FlowBlocks", spec := "flowBlocks", unfollowed := true, recurses := true, apart := false, narrowed := true }
def FlowBlocksUptoSaid : Prop := flowBlocksUptoRow.holds Try.pinned (OpenSpec.upto flowBlocksSpec)

/-- 'runriglaw31.FlowReaches', WHERE WHAT IT READS IS OF BULK AT MOST 1048576: true; the input reads as it did. -/
def flowReachesUptoRow : OpenClaim := { program := "ytdkplhdinklflaa", sum := "0a4d4be6db691357c7531275583b0ee3627cc02ce7e10afb62d7a1c73daec8a5", func := "runrig/runriglaw31.FlowReaches", spec := "flowReaches", unfollowed := true, recurses := true, apart := false, narrowed := true }
def FlowReachesUptoSaid : Prop := flowReachesUptoRow.holds Try.pinned (OpenSpec.upto flowReachesSpec)

/-- 'runriglaw31.FlowRegisters', WHERE WHAT IT READS IS OF BULK AT MOST 1048576: true; the input reads as it did. -/
def flowRegistersUptoRow : OpenClaim := { program := "ytdkplhdinklflaa", sum := "0a4d4be6db691357c7531275583b0ee3627cc02ce7e10afb62d7a1c73daec8a5", func := "runrig/runriglaw31.FlowRegisters", spec := "flowRegisters", unfollowed := true, recurses := true, apart := false, narrowed := true }
def FlowRegistersUptoSaid : Prop := flowRegistersUptoRow.holds Try.pinned (OpenSpec.upto flowRegistersSpec)

end Rows
end Go.Proofs.Ytdkplhdinklflaa
