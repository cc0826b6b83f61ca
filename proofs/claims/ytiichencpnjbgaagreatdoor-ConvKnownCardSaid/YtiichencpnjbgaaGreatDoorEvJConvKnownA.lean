/-
  Closed facts of the row convKnown. (Conditions: none.)
-/
import Derived.Test.YtiichencpnjbgaaGreatDoorRows
import Derived.JoinedOf
import Derived.KernelRfl
import Derived.SevenTiedAt
namespace Go.Proofs.YtiichencpnjbgaaGreatDoor.convKnown
open Go
theorem k1 : (Rows.convKnownRow.wf (OpenSpec.ofChange Rows.convKnownSpec)) = true := by kernel_rfl
theorem k4 : (Tryz.f3.params.all (Tryz.prog.readableRec ·)) = true := by kernel_rfl
theorem k5 : (namedTie Tryz.prog Rows.convKnownRow.named Rows.convKnownSpec.vars) = true := by kernel_rfl
theorem k6 : ((Rows.convKnownRow.stops == [])) = true := by kernel_rfl
theorem k7 : ((Tryz.prog.stops == [])) = true := by kernel_rfl
theorem k8 : ((Rows.convKnownRow.knobs == [])) = true := by kernel_rfl
theorem k9 : ((Tryz.prog.stopKnobs == [])) = true := by kernel_rfl
theorem k14 : ((Rows.convKnownRow.maps == (Tryz.f3.params.toList ++ Rows.convKnownSpec.plain.varTypes Tryz.prog).any (Tryz.prog.mapsRec ·))) = true := by kernel_rfl
theorem k15 : ((Rows.convKnownRow.ifaces == (Tryz.f3.params.toList ++ Rows.convKnownSpec.plain.varTypes Tryz.prog).any (Tryz.prog.ifacesRec ·))) = true := by kernel_rfl
theorem k16 : ((Rows.convKnownRow.mapsOut == Tryz.prog.mapsAmong Tryz.f3.resultTypes.toList)) = true := by kernel_rfl
theorem k17 : ((Rows.convKnownRow.loops == (Tryz.f3.params.toList ++ Rows.convKnownSpec.plain.varTypes Tryz.prog).any (Tryz.prog.loopsFrom ·))) = true := by kernel_rfl
theorem k18 : ((Rows.convKnownRow.wideKeys == (Tryz.f3.params.toList ++ Rows.convKnownSpec.plain.varTypes Tryz.prog ++ Tryz.f3.resultTypes.toList).any (Tryz.prog.wideKeysFrom ·))) = true := by kernel_rfl
theorem k19 : (Rows.convKnownSpec.vars.all (Tryz.prog.varReadable ·)) = true := by kernel_rfl
theorem k20 : (Tryz.f3.resultTypes.all (fun t => Tryz.prog.readableRec t && decide (t < Tryz.prog.types.size))) = true := by kernel_rfl
theorem k21 : ((Rows.convKnownRow.ifacesOut == Tryz.f3.resultTypes.toList.any (Tryz.prog.ifacesRec ·))) = true := by kernel_rfl
theorem k22 : ((Rows.convKnownRow.loopsOut == Tryz.f3.resultTypes.toList.any (Tryz.prog.loopsFrom ·))) = true := by kernel_rfl
theorem k23 : ((Rows.convKnownRow.plainKeys == Tryz.prog.plainKeys)) = true := by kernel_rfl
theorem k24 : (Rows.convKnownRow.shortTexts.isNone) = true := by kernel_rfl
theorem k28 : ((Tryz.prog.make == some Rows.convKnownRow.make)) = true := by kernel_rfl
theorem k29 : ((Rows.convKnownRow.kinds == (if Rows.convKnownRow.domain.isEmpty then [] else Tryz.f3.params.toList.map fun t => match Tryz.prog.underlying t with | some (.int k) => some k | _ => none))) = true := by kernel_rfl
theorem k30 : ((Rows.convKnownRow.pinned == Rows.convKnownRow.pinnedBy)) = true := by kernel_rfl
theorem k31 : ((Rows.convKnownRow.veiled == (Tryz.f3.params.toList ++ Rows.convKnownSpec.plain.varTypes Tryz.prog ++ Tryz.f3.resultTypes.toList).any (Tryz.prog.veiledRec ·))) = true := by kernel_rfl
theorem k32 : (Rows.convKnownRow.veiledFits Tryz.prog Tryz.f3.params.toList (Tryz.f3.params.toList ++ Rows.convKnownSpec.plain.varTypes Tryz.prog ++ Tryz.f3.resultTypes.toList)) = true := by kernel_rfl
end Go.Proofs.YtiichencpnjbgaaGreatDoor.convKnown
