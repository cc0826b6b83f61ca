/-
  The kernel's runs of the evaluator: TreadLists, part 17. (Conditions: none.) Written by wip/tools/lists.py.
-/
import Derived.Test.YtfddpaljmihinaaGreatDoorEvFaults3
namespace Go.Proofs.YtfddpaljmihinaaGreatDoor
namespace Ev
open Go
set_option maxRecDepth 1000000
theorem lists28_false (z : Int) : (xFn seatK 1000 11 [.int .i64 (.ofNat 28), .bool false] (beginMem z)).isTrue = true := by kernel_rfl
theorem lists27_false (z : Int) : (xFn seatK 1000 11 [.int .i64 (.ofNat 27), .bool false] (beginMem z)).isTrue = true := by kernel_rfl
theorem lists9_true (z : Int) : (xFn seatK 1000 11 [.int .i64 (.ofNat 9), .bool true] (beginMem z)).isTrue = true := by kernel_rfl
theorem lists_big (z : Int) (k : Nat) (b : Bool) : (xFn seatK 1000 11 [.int .i64 (.ofNat (k + 31)), .bool b] (beginMem z)).isTrue = true := by kernel_rfl
end Ev
end Go.Proofs.YtfddpaljmihinaaGreatDoor
