/-
  MeterFacts: for every input the law returns true and each argument reads behind the call as it read before. No condition.
-/
import Derived.Test.YtjhnnjgnkkjmkaaGreatDoorMeterFactsPa
namespace Go.Proofs.YtjhnnjgnkkjmkaaGreatDoor.meterFacts
open Go.ChangeShapes Go.WideShapes Go.ChangeAt Go.RowKit Go.RR
open Go.ChangeMaps (open_string shut_string)
set_option linter.unusedVariables false

def J (b : Program → FuncId → Func → ChangeSpec → OpenClaim → Bool) : Prop := b Tryz.prog 4 Tryz.f4 (Rows.meterFactsSpec) (Rows.meterFactsRow) = true
theorem and_yes {a b : Bool} (h : a = true) (k : b = true) : (a && b) = true := by rw [h, k]; rfl
theorem fact0 : J fun P f fn s c => c.wf (OpenSpec.ofChange s) := by unfold J; kernel_rfl
theorem fact1 : J fun P f fn s c => laidOutB P := by unfold J; kernel_rfl
theorem fact2 : J fun P f fn s c => mapsRowed P := by unfold J; kernel_rfl
theorem fact3 : J fun P f fn s c => fn.params.all (P.readableRec ·) := by unfold J; kernel_rfl
theorem fact4 : J fun P f fn s c => namedTie P c.named s.vars := by unfold J; kernel_rfl
theorem fact5 : J fun P f fn s c => (c.stops == []) := by unfold J; kernel_rfl
theorem fact6 : J fun P f fn s c => (P.stops == []) := by unfold J; kernel_rfl
theorem fact7 : J fun P f fn s c => (c.knobs == []) := by unfold J; kernel_rfl
theorem fact8 : J fun P f fn s c => (P.stopKnobs == []) := by unfold J; kernel_rfl
theorem fact9 : J fun P f fn s c => (c.inPlace == P.inPlace f) := by unfold J; kernel_rfl
theorem fact10 : J fun P f fn s c => (c.unfollowed == P.unfollowed f) := by unfold J; kernel_rfl
theorem fact11 : J fun P f fn s c => (c.recurses == P.recurses f) := by unfold J; kernel_rfl
theorem fact12 : J fun P f fn s c => (c.named == P.varsNamed f) := by unfold J; kernel_rfl
theorem fact13 : J fun P f fn s c => (c.maps == (fn.params.toList ++ s.plain.varTypes P).any (P.mapsRec ·)) := by unfold J; kernel_rfl
theorem fact14 : J fun P f fn s c => (c.ifaces == (fn.params.toList ++ s.plain.varTypes P).any (P.ifacesRec ·)) := by unfold J; kernel_rfl
theorem fact15 : J fun P f fn s c => (c.mapsOut == P.mapsAmong fn.resultTypes.toList) := by unfold J; kernel_rfl
theorem fact16 : J fun P f fn s c => (c.loops == (fn.params.toList ++ s.plain.varTypes P).any (P.loopsFrom ·)) := by unfold J; kernel_rfl
theorem fact17 : J fun P f fn s c => (c.wideKeys == (fn.params.toList ++ s.plain.varTypes P ++ fn.resultTypes.toList).any (P.wideKeysFrom ·)) := by unfold J; kernel_rfl
theorem fact18 : J fun P f fn s c => s.vars.all (P.varReadable ·) := by unfold J; kernel_rfl
theorem fact19 : J fun P f fn s c => fn.resultTypes.all (fun t => P.readableRec t && decide (t < P.types.size)) := by unfold J; kernel_rfl
theorem fact20 : J fun P f fn s c => (c.ifacesOut == fn.resultTypes.toList.any (P.ifacesRec ·)) := by unfold J; kernel_rfl
theorem fact21 : J fun P f fn s c => (c.loopsOut == fn.resultTypes.toList.any (P.loopsFrom ·)) := by unfold J; kernel_rfl
theorem fact22 : J fun P f fn s c => (c.plainKeys == P.plainKeys) := by unfold J; kernel_rfl
theorem fact23 : J fun P f fn s c => c.shortTexts.isNone := by unfold J; kernel_rfl
theorem fact24 : J fun P f fn s c => P.stopsHeard := by unfold J; kernel_rfl
theorem fact25 : J fun P f fn s c => P.mayEnter := by unfold J; kernel_rfl
theorem fact26 : J fun P f fn s c => (c.lifted == P.liftsFinal) := by unfold J; kernel_rfl
theorem fact27 : J fun P f fn s c => (P.make == some c.make) := by unfold J; kernel_rfl
theorem fact28 : J fun P f fn s c => (c.kinds == (if c.domain.isEmpty then [] else fn.params.toList.map fun t => match P.underlying t with | some (.int k) => some k | _ => none)) := by unfold J; kernel_rfl
theorem fact29 : J fun P f fn s c => (c.pinned == c.pinnedBy) := by unfold J; kernel_rfl
theorem fact30 : J fun P f fn s c => (c.veiled == (fn.params.toList ++ s.plain.varTypes P ++ fn.resultTypes.toList).any (P.veiledRec ·)) := by unfold J; kernel_rfl
theorem fact31 : J fun P f fn s c => c.veiledFits P fn.params.toList (fn.params.toList ++ s.plain.varTypes P ++ fn.resultTypes.toList) := by unfold J; kernel_rfl
set_option maxRecDepth 100000 in
theorem closed : joinedFacts Tryz.prog 4 Tryz.f4 (Rows.meterFactsSpec) (Rows.meterFactsRow) = true := by
  unfold joinedFacts
  exact (and_yes (and_yes (and_yes (and_yes (and_yes (and_yes (and_yes (and_yes (and_yes (and_yes (and_yes (and_yes (and_yes (and_yes (and_yes (and_yes (and_yes (and_yes (and_yes (and_yes (and_yes (and_yes (and_yes (and_yes (and_yes (and_yes (and_yes (and_yes (and_yes (and_yes (and_yes fact0 fact1) fact2) fact3) fact4) fact5) fact6) fact7) fact8) fact9) fact10) fact11) fact12) fact13) fact14) fact15) fact16) fact17) fact18) fact19) fact20) fact21) fact22) fact23) fact24) fact25) fact26) fact27) fact28) fact29) fact30) fact31)

end Go.Proofs.YtjhnnjgnkkjmkaaGreatDoor.meterFacts
