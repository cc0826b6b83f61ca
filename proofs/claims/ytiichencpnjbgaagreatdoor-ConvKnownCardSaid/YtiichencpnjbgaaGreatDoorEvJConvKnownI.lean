/-
  A closed fact of the row convKnown. (Conditions: none.)
-/
import Derived.Test.YtiichencpnjbgaaGreatDoorRows
import Derived.JoinedOf
import Derived.KernelRfl
import Derived.SevenTiedAt
namespace Go.Proofs.YtiichencpnjbgaaGreatDoor.convKnown
open Go
theorem m2 : true = Tryz.pinned.checked.prog.looks [] := by kernel_rfl
end Go.Proofs.YtiichencpnjbgaaGreatDoor.convKnown
