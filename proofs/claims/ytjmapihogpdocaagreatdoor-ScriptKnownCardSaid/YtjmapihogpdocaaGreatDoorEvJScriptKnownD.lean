/-
  Closed facts of the row scriptKnown. (Conditions: none.)
-/
import Derived.Test.YtjmapihogpdocaaGreatDoorRows
import Derived.JoinedOf
import Derived.KernelRfl
import Derived.SevenTiedAt
namespace Go.Proofs.YtjmapihogpdocaaGreatDoor.scriptKnown
open Go
theorem k11 : ((Rows.scriptKnownRow.unfollowed == Tryz.prog.unfollowed 5)) = true := by kernel_rfl
end Go.Proofs.YtjmapihogpdocaaGreatDoor.scriptKnown
