/-
  A closed fact of the seat's tie. (Conditions: none.)
-/
import Derived.Test.YtjmapihogpdocaaGreatDoorRows
import Derived.LaidByTextLater
import Derived.KernelRfl
namespace Go.Proofs.YtjmapihogpdocaaGreatDoor
open Go
theorem own_hd : ∀ os tape, varsDone Tryz.prog 400 (varsId Tryz.prog) os tape = true := fun _ _ => by kernel_rfl
end Go.Proofs.YtjmapihogpdocaaGreatDoor
