/-
  A closed fact of the row topNames. (Conditions: none.)
-/
import Derived.Test.YtjmapihogpdocaaGreatDoorRows
import Derived.JoinedOf
import Derived.KernelRfl
import Derived.SevenTiedAt
namespace Go.Proofs.YtjmapihogpdocaaGreatDoor.topNames
open Go
theorem m5 : Tryz.pinned.checked.prog.funcNamed "dragoman/dragomantop.TopNames" = some 3 := by kernel_rfl
end Go.Proofs.YtjmapihogpdocaaGreatDoor.topNames
