/-
  The kernel's runs of entries. (Conditions: none.)
-/
import Derived.KernelRfl
import Derived.Test.YtjmapihogpdocaaGreatDoorEvSk
namespace Go.Proofs.YtjmapihogpdocaaGreatDoor
namespace Ev
open Go
set_option maxRecDepth 1000000
theorem run_evsk_e2 (z : Int) : frRun (xFn seatF 1000 14) evsk_e2 z = some z := by kernel_rfl
end Ev
end Go.Proofs.YtjmapihogpdocaaGreatDoor
