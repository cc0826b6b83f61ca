/-
  Closed facts of the row scriptKnown. (Conditions: none.)
-/
import Derived.Test.YtjmapihogpdocaaGreatDoorRows
import Derived.JoinedOf
import Derived.KernelRfl
import Derived.SevenTiedAt
namespace Go.Proofs.YtjmapihogpdocaaGreatDoor.scriptKnown
open Go
theorem k13 : ((Rows.scriptKnownRow.named == Tryz.prog.varsNamed 5)) = true := by kernel_rfl
end Go.Proofs.YtjmapihogpdocaaGreatDoor.scriptKnown
