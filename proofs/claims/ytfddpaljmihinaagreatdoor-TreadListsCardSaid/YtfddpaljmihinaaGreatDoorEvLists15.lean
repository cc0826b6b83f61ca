/-
  The kernel's runs of the evaluator: TreadLists, part 15. (Conditions: none.) Written by wip/tools/lists.py.
-/
import Derived.Test.YtfddpaljmihinaaGreatDoorEvFaults3
namespace Go.Proofs.YtfddpaljmihinaaGreatDoor
namespace Ev
open Go
set_option maxRecDepth 1000000
theorem lists29_false (z : Int) : (xFn seatK 1000 11 [.int .i64 (.ofNat 29), .bool false] (beginMem z)).isTrue = true := by kernel_rfl
theorem lists26_false (z : Int) : (xFn seatK 1000 11 [.int .i64 (.ofNat 26), .bool false] (beginMem z)).isTrue = true := by kernel_rfl
theorem lists16_false (z : Int) : (xFn seatK 1000 11 [.int .i64 (.ofNat 16), .bool false] (beginMem z)).isTrue = true := by kernel_rfl
theorem lists1_false (z : Int) : (xFn seatK 1000 11 [.int .i64 (.ofNat 1), .bool false] (beginMem z)).isTrue = true := by kernel_rfl
end Ev
end Go.Proofs.YtfddpaljmihinaaGreatDoor
