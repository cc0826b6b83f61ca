/-
  The kernel's runs of the evaluator: TreadBounds, n from 27 to 31. (Conditions: none.) Written by wip/tools/bounds.py.
-/
import Derived.Test.YtfddpaljmihinaaGreatDoorEvFaults
namespace Go.Proofs.YtfddpaljmihinaaGreatDoor
namespace Ev
open Go
set_option maxRecDepth 1000000
theorem bounds27 (z : Int) : (xFn seatK 1000 13 [.int .i64 (.ofNat 27)] (beginMem z)).isTrue = true := by kernel_rfl
theorem bounds28 (z : Int) : (xFn seatK 1000 13 [.int .i64 (.ofNat 28)] (beginMem z)).isTrue = true := by kernel_rfl
theorem bounds29 (z : Int) : (xFn seatK 1000 13 [.int .i64 (.ofNat 29)] (beginMem z)).isTrue = true := by kernel_rfl
theorem bounds30 (z : Int) : (xFn seatK 1000 13 [.int .i64 (.ofNat 30)] (beginMem z)).isTrue = true := by kernel_rfl
theorem bounds31 (z : Int) : (xFn seatK 1000 13 [.int .i64 (.ofNat 31)] (beginMem z)).isTrue = true := by kernel_rfl
end Ev
end Go.Proofs.YtfddpaljmihinaaGreatDoor
