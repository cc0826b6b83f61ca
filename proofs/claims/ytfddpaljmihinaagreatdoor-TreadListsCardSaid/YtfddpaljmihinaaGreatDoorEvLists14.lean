/-
  The kernel's runs of the evaluator: TreadLists, part 14. (Conditions: none.) Written by wip/tools/lists.py.
-/
import Derived.Test.YtfddpaljmihinaaGreatDoorEvFaults3
namespace Go.Proofs.YtfddpaljmihinaaGreatDoor
namespace Ev
open Go
set_option maxRecDepth 1000000
theorem lists30_false (z : Int) : (xFn seatK 1000 11 [.int .i64 (.ofNat 30), .bool false] (beginMem z)).isTrue = true := by kernel_rfl
theorem lists14_true (z : Int) : (xFn seatK 1000 11 [.int .i64 (.ofNat 14), .bool true] (beginMem z)).isTrue = true := by kernel_rfl
theorem lists15_false (z : Int) : (xFn seatK 1000 11 [.int .i64 (.ofNat 15), .bool false] (beginMem z)).isTrue = true := by kernel_rfl
theorem lists2_false (z : Int) : (xFn seatK 1000 11 [.int .i64 (.ofNat 2), .bool false] (beginMem z)).isTrue = true := by kernel_rfl
end Ev
end Go.Proofs.YtfddpaljmihinaaGreatDoor
