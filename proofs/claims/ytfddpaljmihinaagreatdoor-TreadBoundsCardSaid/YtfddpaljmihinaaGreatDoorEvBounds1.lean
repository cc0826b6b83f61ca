/-
  The kernel's runs of the evaluator: TreadBounds, n from 16 to 21. (Conditions: none.) Written by wip/tools/bounds.py.
-/
import Derived.Test.YtfddpaljmihinaaGreatDoorEvFaults
namespace Go.Proofs.YtfddpaljmihinaaGreatDoor
namespace Ev
open Go
set_option maxRecDepth 1000000
theorem bounds16 (z : Int) : (xFn seatK 1000 13 [.int .i64 (.ofNat 16)] (beginMem z)).isTrue = true := by kernel_rfl
theorem bounds17 (z : Int) : (xFn seatK 1000 13 [.int .i64 (.ofNat 17)] (beginMem z)).isTrue = true := by kernel_rfl
theorem bounds18 (z : Int) : (xFn seatK 1000 13 [.int .i64 (.ofNat 18)] (beginMem z)).isTrue = true := by kernel_rfl
theorem bounds19 (z : Int) : (xFn seatK 1000 13 [.int .i64 (.ofNat 19)] (beginMem z)).isTrue = true := by kernel_rfl
theorem bounds20 (z : Int) : (xFn seatK 1000 13 [.int .i64 (.ofNat 20)] (beginMem z)).isTrue = true := by kernel_rfl
theorem bounds21 (z : Int) : (xFn seatK 1000 13 [.int .i64 (.ofNat 21)] (beginMem z)).isTrue = true := by kernel_rfl
end Ev
end Go.Proofs.YtfddpaljmihinaaGreatDoor
