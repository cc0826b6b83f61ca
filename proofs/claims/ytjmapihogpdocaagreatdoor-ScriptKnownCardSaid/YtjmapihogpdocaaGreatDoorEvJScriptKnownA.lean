/-
  Closed facts of the row scriptKnown. (Conditions: none.)
-/
import Derived.Test.YtjmapihogpdocaaGreatDoorRows
import Derived.JoinedOf
import Derived.KernelRfl
import Derived.SevenTiedAt
namespace Go.Proofs.YtjmapihogpdocaaGreatDoor.scriptKnown
open Go
theorem k1 : (Rows.scriptKnownRow.wf (OpenSpec.ofChange Rows.scriptKnownSpec)) = true := by kernel_rfl
theorem k4 : (Tryz.f5.params.all (Tryz.prog.readableRec ·)) = true := by kernel_rfl
theorem k5 : (namedTie Tryz.prog Rows.scriptKnownRow.named Rows.scriptKnownSpec.vars) = true := by kernel_rfl
theorem k6 : ((Rows.scriptKnownRow.stops == [])) = true := by kernel_rfl
theorem k7 : ((Tryz.prog.stops == [])) = true := by kernel_rfl
theorem k8 : ((Rows.scriptKnownRow.knobs == [])) = true := by kernel_rfl
theorem k9 : ((Tryz.prog.stopKnobs == [])) = true := by kernel_rfl
theorem k14 : ((Rows.scriptKnownRow.maps == (Tryz.f5.params.toList ++ Rows.scriptKnownSpec.plain.varTypes Tryz.prog).any (Tryz.prog.mapsRec ·))) = true := by kernel_rfl
theorem k15 : ((Rows.scriptKnownRow.ifaces == (Tryz.f5.params.toList ++ Rows.scriptKnownSpec.plain.varTypes Tryz.prog).any (Tryz.prog.ifacesRec ·))) = true := by kernel_rfl
theorem k16 : ((Rows.scriptKnownRow.mapsOut == Tryz.prog.mapsAmong Tryz.f5.resultTypes.toList)) = true := by kernel_rfl
theorem k17 : ((Rows.scriptKnownRow.loops == (Tryz.f5.params.toList ++ Rows.scriptKnownSpec.plain.varTypes Tryz.prog).any (Tryz.prog.loopsFrom ·))) = true := by kernel_rfl
theorem k18 : ((Rows.scriptKnownRow.wideKeys == (Tryz.f5.params.toList ++ Rows.scriptKnownSpec.plain.varTypes Tryz.prog ++ Tryz.f5.resultTypes.toList).any (Tryz.prog.wideKeysFrom ·))) = true := by kernel_rfl
theorem k19 : (Rows.scriptKnownSpec.vars.all (Tryz.prog.varReadable ·)) = true := by kernel_rfl
theorem k20 : (Tryz.f5.resultTypes.all (fun t => Tryz.prog.readableRec t && decide (t < Tryz.prog.types.size))) = true := by kernel_rfl
theorem k21 : ((Rows.scriptKnownRow.ifacesOut == Tryz.f5.resultTypes.toList.any (Tryz.prog.ifacesRec ·))) = true := by kernel_rfl
theorem k22 : ((Rows.scriptKnownRow.loopsOut == Tryz.f5.resultTypes.toList.any (Tryz.prog.loopsFrom ·))) = true := by kernel_rfl
theorem k23 : ((Rows.scriptKnownRow.plainKeys == Tryz.prog.plainKeys)) = true := by kernel_rfl
theorem k24 : (Rows.scriptKnownRow.shortTexts.isNone) = true := by kernel_rfl
theorem k28 : ((Tryz.prog.make == some Rows.scriptKnownRow.make)) = true := by kernel_rfl
theorem k30 : ((Rows.scriptKnownRow.pinned == Rows.scriptKnownRow.pinnedBy)) = true := by kernel_rfl
theorem k31 : ((Rows.scriptKnownRow.veiled == (Tryz.f5.params.toList ++ Rows.scriptKnownSpec.plain.varTypes Tryz.prog ++ Tryz.f5.resultTypes.toList).any (Tryz.prog.veiledRec ·))) = true := by kernel_rfl
theorem k32 : (Rows.scriptKnownRow.veiledFits Tryz.prog Tryz.f5.params.toList (Tryz.f5.params.toList ++ Rows.scriptKnownSpec.plain.varTypes Tryz.prog ++ Tryz.f5.resultTypes.toList)) = true := by kernel_rfl
end Go.Proofs.YtjmapihogpdocaaGreatDoor.scriptKnown
