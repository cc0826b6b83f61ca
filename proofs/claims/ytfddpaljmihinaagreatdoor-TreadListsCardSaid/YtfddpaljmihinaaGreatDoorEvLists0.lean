/-
  The kernel's runs of the evaluator: TreadLists, part 0. (Conditions: none.) Written by wip/tools/lists.py.
-/
import Derived.Test.YtfddpaljmihinaaGreatDoorEvFaults3
namespace Go.Proofs.YtfddpaljmihinaaGreatDoor
namespace Ev
open Go
set_option maxRecDepth 1000000
theorem lists30_true (z : Int) : (xFn seatK 1000 11 [.int .i64 (.ofNat 30), .bool true] (beginMem z)).isTrue = true := by kernel_rfl
theorem lists13_false (z : Int) : (xFn seatK 1000 11 [.int .i64 (.ofNat 13), .bool false] (beginMem z)).isTrue = true := by kernel_rfl
theorem lists5_false (z : Int) : (xFn seatK 1000 11 [.int .i64 (.ofNat 5), .bool false] (beginMem z)).isTrue = true := by kernel_rfl
end Ev
end Go.Proofs.YtfddpaljmihinaaGreatDoor
