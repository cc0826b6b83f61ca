/-
  The kernel's runs of the evaluator: TreadLists, part 12. (Conditions: none.) Written by wip/tools/lists.py.
-/
import Derived.Test.YtfddpaljmihinaaGreatDoorEvFaults3
namespace Go.Proofs.YtfddpaljmihinaaGreatDoor
namespace Ev
open Go
set_option maxRecDepth 1000000
theorem lists18_true (z : Int) : (xFn seatK 1000 11 [.int .i64 (.ofNat 18), .bool true] (beginMem z)).isTrue = true := by kernel_rfl
theorem lists24_false (z : Int) : (xFn seatK 1000 11 [.int .i64 (.ofNat 24), .bool false] (beginMem z)).isTrue = true := by kernel_rfl
theorem lists7_true (z : Int) : (xFn seatK 1000 11 [.int .i64 (.ofNat 7), .bool true] (beginMem z)).isTrue = true := by kernel_rfl
theorem lists6_false (z : Int) : (xFn seatK 1000 11 [.int .i64 (.ofNat 6), .bool false] (beginMem z)).isTrue = true := by kernel_rfl
end Ev
end Go.Proofs.YtfddpaljmihinaaGreatDoor
