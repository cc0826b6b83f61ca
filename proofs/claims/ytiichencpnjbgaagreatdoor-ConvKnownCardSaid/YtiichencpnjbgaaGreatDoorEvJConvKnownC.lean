/-
  Closed facts of the row convKnown. (Conditions: none.)
-/
import Derived.Test.YtiichencpnjbgaaGreatDoorRows
import Derived.JoinedOf
import Derived.KernelRfl
import Derived.SevenTiedAt
namespace Go.Proofs.YtiichencpnjbgaaGreatDoor.convKnown
open Go
theorem k10 : ((Rows.convKnownRow.inPlace == Tryz.prog.inPlace 3)) = true := by kernel_rfl
end Go.Proofs.YtiichencpnjbgaaGreatDoor.convKnown
