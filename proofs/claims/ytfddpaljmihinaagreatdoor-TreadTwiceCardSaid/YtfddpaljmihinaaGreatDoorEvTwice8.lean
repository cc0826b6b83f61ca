/-
  The kernel's runs of the evaluator: TreadTwice, part 8. (Conditions: none.) Written by wip/tools/twice.py.
-/
import Derived.Test.YtfddpaljmihinaaGreatDoorEvFaults
namespace Go.Proofs.YtfddpaljmihinaaGreatDoor
namespace Ev
open Go
set_option maxRecDepth 1000000
theorem twice15_8 (z : Int) : (xFn seatK 1000 10 [.int .i64 (.ofNat 15), .int .i64 (.ofNat 8)] (beginMem z)).isTrue = true := by kernel_rfl
theorem twice14_8 (z : Int) : (xFn seatK 1000 10 [.int .i64 (.ofNat 14), .int .i64 (.ofNat 8)] (beginMem z)).isTrue = true := by kernel_rfl
theorem twice13_10 (z : Int) : (xFn seatK 1000 10 [.int .i64 (.ofNat 13), .int .i64 (.ofNat 10)] (beginMem z)).isTrue = true := by kernel_rfl
theorem twice11_3 (z : Int) : (xFn seatK 1000 10 [.int .i64 (.ofNat 11), .int .i64 (.ofNat 3)] (beginMem z)).isTrue = true := by kernel_rfl
theorem twice11_9 (z : Int) : (xFn seatK 1000 10 [.int .i64 (.ofNat 11), .int .i64 (.ofNat 9)] (beginMem z)).isTrue = true := by kernel_rfl
theorem twice8_4 (z : Int) : (xFn seatK 1000 10 [.int .i64 (.ofNat 8), .int .i64 (.ofNat 4)] (beginMem z)).isTrue = true := by kernel_rfl
theorem twice7_2 (z : Int) : (xFn seatK 1000 10 [.int .i64 (.ofNat 7), .int .i64 (.ofNat 2)] (beginMem z)).isTrue = true := by kernel_rfl
theorem twice4_3 (z : Int) : (xFn seatK 1000 10 [.int .i64 (.ofNat 4), .int .i64 (.ofNat 3)] (beginMem z)).isTrue = true := by kernel_rfl
theorem twice10_neg (z : Int) (k : Nat) : (xFn seatK 1000 10 [.int .i64 (.ofNat 10), .int .i64 (.negSucc k)] (beginMem z)).isTrue = true := by kernel_rfl
end Ev
end Go.Proofs.YtfddpaljmihinaaGreatDoor
