/-
  Closed facts of the row topNames. (Conditions: none.)
-/
import Derived.Test.YtjmapihogpdocaaGreatDoorRows
import Derived.JoinedOf
import Derived.KernelRfl
import Derived.SevenTiedAt
namespace Go.Proofs.YtjmapihogpdocaaGreatDoor.topNames
open Go
theorem k12 : ((Rows.topNamesRow.recurses == Tryz.prog.recurses 3)) = true := by kernel_rfl
end Go.Proofs.YtjmapihogpdocaaGreatDoor.topNames
