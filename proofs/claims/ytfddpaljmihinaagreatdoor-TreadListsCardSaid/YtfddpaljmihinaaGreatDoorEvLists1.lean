/-
  The kernel's runs of the evaluator: TreadLists, part 1. (Conditions: none.) Written by wip/tools/lists.py.
-/
import Derived.Test.YtfddpaljmihinaaGreatDoorEvFaults3
namespace Go.Proofs.YtfddpaljmihinaaGreatDoor
namespace Ev
open Go
set_option maxRecDepth 1000000
theorem lists29_true (z : Int) : (xFn seatK 1000 11 [.int .i64 (.ofNat 29), .bool true] (beginMem z)).isTrue = true := by kernel_rfl
theorem lists17_false (z : Int) : (xFn seatK 1000 11 [.int .i64 (.ofNat 17), .bool false] (beginMem z)).isTrue = true := by kernel_rfl
theorem lists_neg (z : Int) (k : Nat) (b : Bool) : (xFn seatK 1000 11 [.int .i64 (.negSucc k), .bool b] (beginMem z)).isTrue = true := by kernel_rfl
end Ev
end Go.Proofs.YtfddpaljmihinaaGreatDoor
