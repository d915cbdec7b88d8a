/- Part of MeterTexts. No condition. -/
import Derived.Test.YtjhnnjgnkkjmkaaGreatDoorMeterTextsPa
set_option maxRecDepth 100000
namespace Go.Proofs.YtjhnnjgnkkjmkaaGreatDoor.meterTexts
open Go.RowKit
set_option linter.unusedVariables false
def J (b:Program→FuncId→Func→ChangeSpec→OpenClaim→Bool):Prop:=b Tryz.prog 3 Tryz.f3 (Rows.meterTextsSpec) (Rows.meterTextsRow)=true
theorem yes {a b:Bool} (h:a=true) (k:b=true):(a && b)=true:=by rw [h,k];rfl
theorem j0:J fun P f fn s c=>c.wf (OpenSpec.ofChange s):=by unfold J;kernel_rfl
theorem j1:J fun P f fn s c=>laidOutB P:=by unfold J;kernel_rfl
theorem j2:J fun P f fn s c=>mapsRowed P:=by unfold J;kernel_rfl
theorem j3:J fun P f fn s c=>fn.params.all (P.readableRec ·):=by unfold J;kernel_rfl
theorem j4:J fun P f fn s c=>namedTie P c.named s.vars:=by unfold J;kernel_rfl
theorem j5:J fun P f fn s c=>(c.stops == []):=by unfold J;kernel_rfl
theorem j6:J fun P f fn s c=>(P.stops == []):=by unfold J;kernel_rfl
theorem j7:J fun P f fn s c=>(c.knobs == []):=by unfold J;kernel_rfl
theorem j8:J fun P f fn s c=>(P.stopKnobs == []):=by unfold J;kernel_rfl
theorem j9:J fun P f fn s c=>(c.inPlace == P.inPlace f):=by unfold J;kernel_rfl
theorem j10:J fun P f fn s c=>(c.unfollowed == P.unfollowed f):=by unfold J;kernel_rfl
theorem j11:J fun P f fn s c=>(c.recurses == P.recurses f):=by unfold J;kernel_rfl
theorem j12:J fun P f fn s c=>(c.named == P.varsNamed f):=by unfold J;kernel_rfl
theorem j13:J fun P f fn s c=>(c.maps == (fn.params.toList ++ s.plain.varTypes P).any (P.mapsRec ·)):=by unfold J;kernel_rfl
theorem j14:J fun P f fn s c=>(c.ifaces == (fn.params.toList ++ s.plain.varTypes P).any (P.ifacesRec ·)):=by unfold J;kernel_rfl
theorem j15:J fun P f fn s c=>(c.mapsOut == P.mapsAmong fn.resultTypes.toList):=by unfold J;kernel_rfl
theorem j16:J fun P f fn s c=>(c.loops == (fn.params.toList ++ s.plain.varTypes P).any (P.loopsFrom ·)):=by unfold J;kernel_rfl
theorem j17:J fun P f fn s c=>(c.wideKeys == (fn.params.toList ++ s.plain.varTypes P ++ fn.resultTypes.toList).any (P.wideKeysFrom ·)):=by unfold J;kernel_rfl
theorem j18:J fun P f fn s c=>s.vars.all (P.varReadable ·):=by unfold J;kernel_rfl
theorem j19:J fun P f fn s c=>fn.resultTypes.all (fun t=>P.readableRec t && decide (t<P.types.size)):=by unfold J;kernel_rfl
theorem j20:J fun P f fn s c=>(c.ifacesOut == fn.resultTypes.toList.any (P.ifacesRec ·)):=by unfold J;kernel_rfl
theorem j21:J fun P f fn s c=>(c.loopsOut == fn.resultTypes.toList.any (P.loopsFrom ·)):=by unfold J;kernel_rfl
theorem j22:J fun P f fn s c=>(c.plainKeys == P.plainKeys):=by unfold J;kernel_rfl
theorem j23:J fun P f fn s c=>c.shortTexts.isNone:=by unfold J;kernel_rfl
theorem j24:J fun P f fn s c=>P.stopsHeard:=by unfold J;kernel_rfl
theorem j25:J fun P f fn s c=>P.mayEnter:=by unfold J;kernel_rfl
theorem j26:J fun P f fn s c=>(c.lifted == P.liftsFinal):=by unfold J;kernel_rfl
theorem j27:J fun P f fn s c=>(P.make == some c.make):=by unfold J;kernel_rfl
theorem j28:J fun P f fn s c=>(c.kinds == (if c.domain.isEmpty then [] else fn.params.toList.map fun t=>match P.underlying t with | some (.int k)=>some k | _=>none)):=by unfold J;kernel_rfl
theorem j29:J fun P f fn s c=>(c.pinned == c.pinnedBy):=by unfold J;kernel_rfl
theorem j30:J fun P f fn s c=>(c.veiled == (fn.params.toList ++ s.plain.varTypes P ++ fn.resultTypes.toList).any (P.veiledRec ·)):=by unfold J;kernel_rfl
theorem j31:J fun P f fn s c=>c.veiledFits P fn.params.toList (fn.params.toList ++ s.plain.varTypes P ++ fn.resultTypes.toList):=by unfold J;kernel_rfl
theorem closed:joinedFacts Tryz.prog 3 Tryz.f3 (Rows.meterTextsSpec) (Rows.meterTextsRow)=true:=by
 unfold joinedFacts
 exact (yes (yes (yes (yes (yes (yes (yes (yes (yes (yes (yes (yes (yes (yes (yes (yes (yes (yes (yes (yes (yes (yes (yes (yes (yes (yes (yes (yes (yes (yes (yes j0 j1) j2) j3) j4) j5) j6) j7) j8) j9) j10) j11) j12) j13) j14) j15) j16) j17) j18) j19) j20) j21) j22) j23) j24) j25) j26) j27) j28) j29) j30) j31)
end Go.Proofs.YtjhnnjgnkkjmkaaGreatDoor.meterTexts
