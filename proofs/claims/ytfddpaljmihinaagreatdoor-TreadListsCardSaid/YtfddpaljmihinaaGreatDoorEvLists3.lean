/-
  The kernel's runs of the evaluator: TreadLists, part 3. (Conditions: none.) Written by wip/tools/lists.py.
-/
import Derived.Test.YtfddpaljmihinaaGreatDoorEvFaults3
namespace Go.Proofs.YtfddpaljmihinaaGreatDoor
namespace Ev
open Go
set_option maxRecDepth 1000000
theorem lists27_true (z : Int) : (xFn seatK 1000 11 [.int .i64 (.ofNat 27), .bool true] (beginMem z)).isTrue = true := by kernel_rfl
theorem lists10_true (z : Int) : (xFn seatK 1000 11 [.int .i64 (.ofNat 10), .bool true] (beginMem z)).isTrue = true := by kernel_rfl
theorem lists7_false (z : Int) : (xFn seatK 1000 11 [.int .i64 (.ofNat 7), .bool false] (beginMem z)).isTrue = true := by kernel_rfl
end Ev
end Go.Proofs.YtfddpaljmihinaaGreatDoor
