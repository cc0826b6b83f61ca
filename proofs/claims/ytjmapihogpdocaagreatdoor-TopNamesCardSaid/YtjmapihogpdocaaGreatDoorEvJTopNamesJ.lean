/-
  A closed fact of the row topNames. (Conditions: none.)
-/
import Derived.Test.YtjmapihogpdocaaGreatDoorRows
import Derived.JoinedOf
import Derived.KernelRfl
import Derived.SevenTiedAt
namespace Go.Proofs.YtjmapihogpdocaaGreatDoor.topNames
open Go
theorem m3 : Rows.topNamesRow.wfByText (OpenSpec.ofChange Rows.topNamesSpec) = true := by kernel_rfl
end Go.Proofs.YtjmapihogpdocaaGreatDoor.topNames
