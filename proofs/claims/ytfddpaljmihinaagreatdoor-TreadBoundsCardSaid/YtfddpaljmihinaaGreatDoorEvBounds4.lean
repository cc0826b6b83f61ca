/-
  The kernel's runs of the evaluator: TreadBounds, n from 32 to 35. (Conditions: none.) Written by wip/tools/bounds.py.
-/
import Derived.Test.YtfddpaljmihinaaGreatDoorEvFaults
namespace Go.Proofs.YtfddpaljmihinaaGreatDoor
namespace Ev
open Go
set_option maxRecDepth 1000000
theorem bounds32 (z : Int) : (xFn seatK 1000 13 [.int .i64 (.ofNat 32)] (beginMem z)).isTrue = true := by kernel_rfl
theorem bounds33 (z : Int) : (xFn seatK 1000 13 [.int .i64 (.ofNat 33)] (beginMem z)).isTrue = true := by kernel_rfl
theorem bounds34 (z : Int) : (xFn seatK 1000 13 [.int .i64 (.ofNat 34)] (beginMem z)).isTrue = true := by kernel_rfl
theorem bounds35 (z : Int) : (xFn seatK 1000 13 [.int .i64 (.ofNat 35)] (beginMem z)).isTrue = true := by kernel_rfl
end Ev
end Go.Proofs.YtfddpaljmihinaaGreatDoor
