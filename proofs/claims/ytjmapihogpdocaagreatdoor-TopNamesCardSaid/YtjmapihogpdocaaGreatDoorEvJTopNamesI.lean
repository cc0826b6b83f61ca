/-
  A closed fact of the row topNames. (Conditions: none.)
-/
import Derived.Test.YtjmapihogpdocaaGreatDoorRows
import Derived.JoinedOf
import Derived.KernelRfl
import Derived.SevenTiedAt
namespace Go.Proofs.YtjmapihogpdocaaGreatDoor.topNames
open Go
theorem m2 : true = Tryz.pinned.checked.prog.looks [] := by kernel_rfl
end Go.Proofs.YtjmapihogpdocaaGreatDoor.topNames
