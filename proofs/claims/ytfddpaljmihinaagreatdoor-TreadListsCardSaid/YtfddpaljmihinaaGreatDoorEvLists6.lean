/-
  The kernel's runs of the evaluator: TreadLists, part 6. (Conditions: none.) Written by wip/tools/lists.py.
-/
import Derived.Test.YtfddpaljmihinaaGreatDoorEvFaults3
namespace Go.Proofs.YtfddpaljmihinaaGreatDoor
namespace Ev
open Go
set_option maxRecDepth 1000000
theorem lists24_true (z : Int) : (xFn seatK 1000 11 [.int .i64 (.ofNat 24), .bool true] (beginMem z)).isTrue = true := by kernel_rfl
theorem lists11_true (z : Int) : (xFn seatK 1000 11 [.int .i64 (.ofNat 11), .bool true] (beginMem z)).isTrue = true := by kernel_rfl
theorem lists9_false (z : Int) : (xFn seatK 1000 11 [.int .i64 (.ofNat 9), .bool false] (beginMem z)).isTrue = true := by kernel_rfl
end Ev
end Go.Proofs.YtfddpaljmihinaaGreatDoor
