/-
  A closed fact of the row scriptKnown. (Conditions: none.)
-/
import Derived.Test.YtjmapihogpdocaaGreatDoorRows
import Derived.JoinedOf
import Derived.KernelRfl
import Derived.SevenTiedAt
namespace Go.Proofs.YtjmapihogpdocaaGreatDoor.scriptKnown
open Go
theorem m5 : Tryz.pinned.checked.prog.funcNamed "dragoman/dragomanlaw30.ScriptKnown" = some 5 := by kernel_rfl
end Go.Proofs.YtjmapihogpdocaaGreatDoor.scriptKnown
