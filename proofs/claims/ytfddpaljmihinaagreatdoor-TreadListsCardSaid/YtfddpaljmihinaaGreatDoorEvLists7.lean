/-
  The kernel's runs of the evaluator: TreadLists, part 7. (Conditions: none.) Written by wip/tools/lists.py.
-/
import Derived.Test.YtfddpaljmihinaaGreatDoorEvFaults3
namespace Go.Proofs.YtfddpaljmihinaaGreatDoor
namespace Ev
open Go
set_option maxRecDepth 1000000
theorem lists23_true (z : Int) : (xFn seatK 1000 11 [.int .i64 (.ofNat 23), .bool true] (beginMem z)).isTrue = true := by kernel_rfl
theorem lists21_false (z : Int) : (xFn seatK 1000 11 [.int .i64 (.ofNat 21), .bool false] (beginMem z)).isTrue = true := by kernel_rfl
theorem lists5_true (z : Int) : (xFn seatK 1000 11 [.int .i64 (.ofNat 5), .bool true] (beginMem z)).isTrue = true := by kernel_rfl
end Ev
end Go.Proofs.YtfddpaljmihinaaGreatDoor
