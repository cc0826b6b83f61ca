/-
  The kernel's runs of the evaluator: TreadLists, part 4. (Conditions: none.) Written by wip/tools/lists.py.
-/
import Derived.Test.YtfddpaljmihinaaGreatDoorEvFaults3
namespace Go.Proofs.YtfddpaljmihinaaGreatDoor
namespace Ev
open Go
set_option maxRecDepth 1000000
theorem lists26_true (z : Int) : (xFn seatK 1000 11 [.int .i64 (.ofNat 26), .bool true] (beginMem z)).isTrue = true := by kernel_rfl
theorem lists19_false (z : Int) : (xFn seatK 1000 11 [.int .i64 (.ofNat 19), .bool false] (beginMem z)).isTrue = true := by kernel_rfl
theorem lists4_true (z : Int) : (xFn seatK 1000 11 [.int .i64 (.ofNat 4), .bool true] (beginMem z)).isTrue = true := by kernel_rfl
end Ev
end Go.Proofs.YtfddpaljmihinaaGreatDoor
