/-
  A closed fact of the seat's tie. (Conditions: none.)
-/
import Derived.Test.YtjmapihogpdocaaGreatDoorRows
import Derived.LaidByTextLater
import Derived.KernelRfl
namespace Go.Proofs.YtjmapihogpdocaaGreatDoor
open Go
theorem own_hroot : Tryz.prog.worded rootWordLater = true := by kernel_rfl
end Go.Proofs.YtjmapihogpdocaaGreatDoor
