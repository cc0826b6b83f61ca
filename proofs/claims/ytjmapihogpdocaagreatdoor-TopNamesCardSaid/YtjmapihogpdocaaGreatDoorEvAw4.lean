/-
  The kernel's runs of entries. (Conditions: none.)
-/
import Derived.KernelRfl
import Derived.Test.YtjmapihogpdocaaGreatDoorEvAw
namespace Go.Proofs.YtjmapihogpdocaaGreatDoor
namespace Ev
open Go
set_option maxRecDepth 1000000
theorem run_evaw_e4 (z : Int) : frRun (xFn seatT 1000 52) evaw_e4 z = some z := by kernel_rfl
end Ev
end Go.Proofs.YtjmapihogpdocaaGreatDoor
