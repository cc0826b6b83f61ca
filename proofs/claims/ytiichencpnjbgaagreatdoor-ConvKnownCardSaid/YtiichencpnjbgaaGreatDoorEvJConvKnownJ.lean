/-
  A closed fact of the row convKnown. (Conditions: none.)
-/
import Derived.Test.YtiichencpnjbgaaGreatDoorRows
import Derived.JoinedOf
import Derived.KernelRfl
import Derived.SevenTiedAt
namespace Go.Proofs.YtiichencpnjbgaaGreatDoor.convKnown
open Go
theorem m3 : Rows.convKnownRow.wfByText (OpenSpec.ofChange Rows.convKnownSpec) = true := by kernel_rfl
end Go.Proofs.YtiichencpnjbgaaGreatDoor.convKnown
