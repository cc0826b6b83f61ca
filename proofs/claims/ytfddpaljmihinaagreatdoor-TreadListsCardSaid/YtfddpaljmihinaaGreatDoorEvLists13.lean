/-
  The kernel's runs of the evaluator: TreadLists, part 13. (Conditions: none.) Written by wip/tools/lists.py.
-/
import Derived.Test.YtfddpaljmihinaaGreatDoorEvFaults3
namespace Go.Proofs.YtfddpaljmihinaaGreatDoor
namespace Ev
open Go
set_option maxRecDepth 1000000
theorem lists17_true (z : Int) : (xFn seatK 1000 11 [.int .i64 (.ofNat 17), .bool true] (beginMem z)).isTrue = true := by kernel_rfl
theorem lists25_false (z : Int) : (xFn seatK 1000 11 [.int .i64 (.ofNat 25), .bool false] (beginMem z)).isTrue = true := by kernel_rfl
theorem lists8_true (z : Int) : (xFn seatK 1000 11 [.int .i64 (.ofNat 8), .bool true] (beginMem z)).isTrue = true := by kernel_rfl
theorem lists3_false (z : Int) : (xFn seatK 1000 11 [.int .i64 (.ofNat 3), .bool false] (beginMem z)).isTrue = true := by kernel_rfl
end Ev
end Go.Proofs.YtfddpaljmihinaaGreatDoor
