/-
  The kernel's runs of the evaluator: TreadLists, part 9. (Conditions: none.) Written by wip/tools/lists.py.
-/
import Derived.Test.YtfddpaljmihinaaGreatDoorEvFaults3
namespace Go.Proofs.YtfddpaljmihinaaGreatDoor
namespace Ev
open Go
set_option maxRecDepth 1000000
theorem lists21_true (z : Int) : (xFn seatK 1000 11 [.int .i64 (.ofNat 21), .bool true] (beginMem z)).isTrue = true := by kernel_rfl
theorem lists22_false (z : Int) : (xFn seatK 1000 11 [.int .i64 (.ofNat 22), .bool false] (beginMem z)).isTrue = true := by kernel_rfl
theorem lists11_false (z : Int) : (xFn seatK 1000 11 [.int .i64 (.ofNat 11), .bool false] (beginMem z)).isTrue = true := by kernel_rfl
theorem lists_zero (z : Int) (b : Bool) : (xFn seatK 1000 11 [.int .i64 (.ofNat 0), .bool b] (beginMem z)).isTrue = true := by kernel_rfl
end Ev
end Go.Proofs.YtfddpaljmihinaaGreatDoor
