/-
  Closed facts of the row topNames. (Conditions: none.)
-/
import Derived.Test.YtjmapihogpdocaaGreatDoorRows
import Derived.JoinedOf
import Derived.KernelRfl
import Derived.SevenTiedAt
namespace Go.Proofs.YtjmapihogpdocaaGreatDoor.topNames
open Go
theorem k1 : (Rows.topNamesRow.wf (OpenSpec.ofChange Rows.topNamesSpec)) = true := by kernel_rfl
theorem k4 : (Tryz.f3.params.all (Tryz.prog.readableRec ·)) = true := by kernel_rfl
theorem k5 : (namedTie Tryz.prog Rows.topNamesRow.named Rows.topNamesSpec.vars) = true := by kernel_rfl
theorem k6 : ((Rows.topNamesRow.stops == [])) = true := by kernel_rfl
theorem k7 : ((Tryz.prog.stops == [])) = true := by kernel_rfl
theorem k8 : ((Rows.topNamesRow.knobs == [])) = true := by kernel_rfl
theorem k9 : ((Tryz.prog.stopKnobs == [])) = true := by kernel_rfl
theorem k14 : ((Rows.topNamesRow.maps == (Tryz.f3.params.toList ++ Rows.topNamesSpec.plain.varTypes Tryz.prog).any (Tryz.prog.mapsRec ·))) = true := by kernel_rfl
theorem k15 : ((Rows.topNamesRow.ifaces == (Tryz.f3.params.toList ++ Rows.topNamesSpec.plain.varTypes Tryz.prog).any (Tryz.prog.ifacesRec ·))) = true := by kernel_rfl
theorem k16 : ((Rows.topNamesRow.mapsOut == Tryz.prog.mapsAmong Tryz.f3.resultTypes.toList)) = true := by kernel_rfl
theorem k17 : ((Rows.topNamesRow.loops == (Tryz.f3.params.toList ++ Rows.topNamesSpec.plain.varTypes Tryz.prog).any (Tryz.prog.loopsFrom ·))) = true := by kernel_rfl
theorem k18 : ((Rows.topNamesRow.wideKeys == (Tryz.f3.params.toList ++ Rows.topNamesSpec.plain.varTypes Tryz.prog ++ Tryz.f3.resultTypes.toList).any (Tryz.prog.wideKeysFrom ·))) = true := by kernel_rfl
theorem k19 : (Rows.topNamesSpec.vars.all (Tryz.prog.varReadable ·)) = true := by kernel_rfl
theorem k20 : (Tryz.f3.resultTypes.all (fun t => Tryz.prog.readableRec t && decide (t < Tryz.prog.types.size))) = true := by kernel_rfl
theorem k21 : ((Rows.topNamesRow.ifacesOut == Tryz.f3.resultTypes.toList.any (Tryz.prog.ifacesRec ·))) = true := by kernel_rfl
theorem k22 : ((Rows.topNamesRow.loopsOut == Tryz.f3.resultTypes.toList.any (Tryz.prog.loopsFrom ·))) = true := by kernel_rfl
theorem k23 : ((Rows.topNamesRow.plainKeys == Tryz.prog.plainKeys)) = true := by kernel_rfl
theorem k24 : (Rows.topNamesRow.shortTexts.isNone) = true := by kernel_rfl
theorem k28 : ((Tryz.prog.make == some Rows.topNamesRow.make)) = true := by kernel_rfl
theorem k30 : ((Rows.topNamesRow.pinned == Rows.topNamesRow.pinnedBy)) = true := by kernel_rfl
theorem k31 : ((Rows.topNamesRow.veiled == (Tryz.f3.params.toList ++ Rows.topNamesSpec.plain.varTypes Tryz.prog ++ Tryz.f3.resultTypes.toList).any (Tryz.prog.veiledRec ·))) = true := by kernel_rfl
theorem k32 : (Rows.topNamesRow.veiledFits Tryz.prog Tryz.f3.params.toList (Tryz.f3.params.toList ++ Rows.topNamesSpec.plain.varTypes Tryz.prog ++ Tryz.f3.resultTypes.toList)) = true := by kernel_rfl
end Go.Proofs.YtjmapihogpdocaaGreatDoor.topNames
