/-
  A closed fact of the row convKnown. (Conditions: none.)
-/
import Derived.Test.YtiichencpnjbgaaGreatDoorRows
import Derived.JoinedOf
import Derived.KernelRfl
import Derived.SevenTiedAt
namespace Go.Proofs.YtiichencpnjbgaaGreatDoor.convKnown
open Go
theorem m5 : Tryz.pinned.checked.prog.funcNamed "dragoman/dragomanlaw19.ConvKnown" = some 3 := by kernel_rfl
end Go.Proofs.YtiichencpnjbgaaGreatDoor.convKnown
