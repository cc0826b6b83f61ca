/-
  The kernel's runs of the evaluator: TreadLists, part 10. (Conditions: none.) Written by wip/tools/lists.py.
-/
import Derived.Test.YtfddpaljmihinaaGreatDoorEvFaults3
namespace Go.Proofs.YtfddpaljmihinaaGreatDoor
namespace Ev
open Go
set_option maxRecDepth 1000000
theorem lists20_true (z : Int) : (xFn seatK 1000 11 [.int .i64 (.ofNat 20), .bool true] (beginMem z)).isTrue = true := by kernel_rfl
theorem lists23_false (z : Int) : (xFn seatK 1000 11 [.int .i64 (.ofNat 23), .bool false] (beginMem z)).isTrue = true := by kernel_rfl
theorem lists6_true (z : Int) : (xFn seatK 1000 11 [.int .i64 (.ofNat 6), .bool true] (beginMem z)).isTrue = true := by kernel_rfl
theorem lists1_true (z : Int) : (xFn seatK 1000 11 [.int .i64 (.ofNat 1), .bool true] (beginMem z)).isTrue = true := by kernel_rfl
end Ev
end Go.Proofs.YtfddpaljmihinaaGreatDoor
