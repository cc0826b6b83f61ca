/-
  The run of the law: the evaluator answers true, whatever MaxLen holds. (Conditions: none.)
-/
import Derived.KernelRfl
import Derived.Test.YtjmapihogpdocaaGreatDoorEvSkS
import Derived.Test.YtjmapihogpdocaaGreatDoorEvBegin
namespace Go.Proofs.YtjmapihogpdocaaGreatDoor
namespace Ev
open Go
set_option maxRecDepth 1000000
theorem run_names (z : Int) : (xFn seatG 1000 3 [] (beginMem z)).isTrue = true := by kernel_rfl
end Ev
end Go.Proofs.YtjmapihogpdocaaGreatDoor
