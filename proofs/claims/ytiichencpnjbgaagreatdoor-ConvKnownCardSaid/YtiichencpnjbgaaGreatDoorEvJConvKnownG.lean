/-
  Closed facts of the row convKnown. (Conditions: none.)
-/
import Derived.Test.YtiichencpnjbgaaGreatDoorRows
import Derived.JoinedOf
import Derived.KernelRfl
import Derived.SevenTiedAt
namespace Go.Proofs.YtiichencpnjbgaaGreatDoor.convKnown
open Go
theorem k25 : (Tryz.prog.stopsHeard) = true := by kernel_rfl
theorem k26 : (Tryz.prog.mayEnter) = true := by kernel_rfl
theorem k27 : ((Rows.convKnownRow.lifted == Tryz.prog.liftsFinal)) = true := by kernel_rfl
end Go.Proofs.YtiichencpnjbgaaGreatDoor.convKnown
