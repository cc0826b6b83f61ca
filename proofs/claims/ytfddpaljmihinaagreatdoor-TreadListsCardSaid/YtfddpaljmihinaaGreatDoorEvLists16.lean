/-
  The kernel's runs of the evaluator: TreadLists, part 16. (Conditions: none.) Written by wip/tools/lists.py.
-/
import Derived.Test.YtfddpaljmihinaaGreatDoorEvFaults3
namespace Go.Proofs.YtfddpaljmihinaaGreatDoor
namespace Ev
open Go
set_option maxRecDepth 1000000
theorem lists16_true (z : Int) : (xFn seatK 1000 11 [.int .i64 (.ofNat 16), .bool true] (beginMem z)).isTrue = true := by kernel_rfl
theorem lists15_true (z : Int) : (xFn seatK 1000 11 [.int .i64 (.ofNat 15), .bool true] (beginMem z)).isTrue = true := by kernel_rfl
theorem lists14_false (z : Int) : (xFn seatK 1000 11 [.int .i64 (.ofNat 14), .bool false] (beginMem z)).isTrue = true := by kernel_rfl
theorem lists3_true (z : Int) : (xFn seatK 1000 11 [.int .i64 (.ofNat 3), .bool true] (beginMem z)).isTrue = true := by kernel_rfl
end Ev
end Go.Proofs.YtfddpaljmihinaaGreatDoor
