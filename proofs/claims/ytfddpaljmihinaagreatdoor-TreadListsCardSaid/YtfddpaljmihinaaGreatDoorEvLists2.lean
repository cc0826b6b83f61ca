/-
  The kernel's runs of the evaluator: TreadLists, part 2. (Conditions: none.) Written by wip/tools/lists.py.
-/
import Derived.Test.YtfddpaljmihinaaGreatDoorEvFaults3
namespace Go.Proofs.YtfddpaljmihinaaGreatDoor
namespace Ev
open Go
set_option maxRecDepth 1000000
theorem lists28_true (z : Int) : (xFn seatK 1000 11 [.int .i64 (.ofNat 28), .bool true] (beginMem z)).isTrue = true := by kernel_rfl
theorem lists18_false (z : Int) : (xFn seatK 1000 11 [.int .i64 (.ofNat 18), .bool false] (beginMem z)).isTrue = true := by kernel_rfl
theorem lists2_true (z : Int) : (xFn seatK 1000 11 [.int .i64 (.ofNat 2), .bool true] (beginMem z)).isTrue = true := by kernel_rfl
end Ev
end Go.Proofs.YtfddpaljmihinaaGreatDoor
