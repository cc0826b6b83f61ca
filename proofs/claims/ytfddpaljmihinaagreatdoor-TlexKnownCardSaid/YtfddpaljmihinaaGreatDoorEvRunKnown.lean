/-
  The kernel's run of the evaluator: TlexKnown. (Conditions: none.)
-/
import Derived.Test.YtfddpaljmihinaaGreatDoorEvBegin
namespace Go.Proofs.YtfddpaljmihinaaGreatDoor
namespace Ev
open Go

set_option maxRecDepth 1000000 in
theorem run_known (z : Int) : (evFn seat 60 3 [] (beginMem z)).isTrue = true := by kernel_rfl
end Ev
end Go.Proofs.YtfddpaljmihinaaGreatDoor
