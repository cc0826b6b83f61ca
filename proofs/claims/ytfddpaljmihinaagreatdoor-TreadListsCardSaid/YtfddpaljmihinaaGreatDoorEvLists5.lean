/-
  The kernel's runs of the evaluator: TreadLists, part 5. (Conditions: none.) Written by wip/tools/lists.py.
-/
import Derived.Test.YtfddpaljmihinaaGreatDoorEvFaults3
namespace Go.Proofs.YtfddpaljmihinaaGreatDoor
namespace Ev
open Go
set_option maxRecDepth 1000000
theorem lists25_true (z : Int) : (xFn seatK 1000 11 [.int .i64 (.ofNat 25), .bool true] (beginMem z)).isTrue = true := by kernel_rfl
theorem lists20_false (z : Int) : (xFn seatK 1000 11 [.int .i64 (.ofNat 20), .bool false] (beginMem z)).isTrue = true := by kernel_rfl
theorem lists8_false (z : Int) : (xFn seatK 1000 11 [.int .i64 (.ofNat 8), .bool false] (beginMem z)).isTrue = true := by kernel_rfl
end Ev
end Go.Proofs.YtfddpaljmihinaaGreatDoor
