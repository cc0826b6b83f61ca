/-
  The run of ConvKnown: the evaluator answers true, whatever MaxLen holds. (Conditions: none.)
-/
import Derived.KernelRfl
import Derived.Test.YtiichencpnjbgaaGreatDoorEvSeatT
namespace Go.Proofs.YtiichencpnjbgaaGreatDoor
namespace Ev
open Go
set_option maxRecDepth 1000000
theorem run_conv (z : Int) : (xFn seatT 1000 3 [] (beginMem z)).isTrue = true := by kernel_rfl
end Ev
end Go.Proofs.YtiichencpnjbgaaGreatDoor
