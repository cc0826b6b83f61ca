/-
  The kernel's runs of the evaluator: TreadTwice, part 14. (Conditions: none.) Written by wip/tools/twice.py.
-/
import Derived.Test.YtfddpaljmihinaaGreatDoorEvFaults
namespace Go.Proofs.YtfddpaljmihinaaGreatDoor
namespace Ev
open Go
set_option maxRecDepth 1000000
theorem twice15_14 (z : Int) : (xFn seatK 1000 10 [.int .i64 (.ofNat 15), .int .i64 (.ofNat 14)] (beginMem z)).isTrue = true := by kernel_rfl
theorem twice13_0 (z : Int) : (xFn seatK 1000 10 [.int .i64 (.ofNat 13), .int .i64 (.ofNat 0)] (beginMem z)).isTrue = true := by kernel_rfl
theorem twice13_1 (z : Int) : (xFn seatK 1000 10 [.int .i64 (.ofNat 13), .int .i64 (.ofNat 1)] (beginMem z)).isTrue = true := by kernel_rfl
theorem twice12_6 (z : Int) : (xFn seatK 1000 10 [.int .i64 (.ofNat 12), .int .i64 (.ofNat 6)] (beginMem z)).isTrue = true := by kernel_rfl
theorem twice10_4 (z : Int) : (xFn seatK 1000 10 [.int .i64 (.ofNat 10), .int .i64 (.ofNat 4)] (beginMem z)).isTrue = true := by kernel_rfl
theorem twice9_4 (z : Int) : (xFn seatK 1000 10 [.int .i64 (.ofNat 9), .int .i64 (.ofNat 4)] (beginMem z)).isTrue = true := by kernel_rfl
theorem twice6_1 (z : Int) : (xFn seatK 1000 10 [.int .i64 (.ofNat 6), .int .i64 (.ofNat 1)] (beginMem z)).isTrue = true := by kernel_rfl
theorem twice5_1 (z : Int) : (xFn seatK 1000 10 [.int .i64 (.ofNat 5), .int .i64 (.ofNat 1)] (beginMem z)).isTrue = true := by kernel_rfl
theorem twice13_neg (z : Int) (k : Nat) : (xFn seatK 1000 10 [.int .i64 (.ofNat 13), .int .i64 (.negSucc k)] (beginMem z)).isTrue = true := by kernel_rfl
end Ev
end Go.Proofs.YtfddpaljmihinaaGreatDoor
