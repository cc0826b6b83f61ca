/-
  The kernel's runs of the evaluator: TreadTwice, part 10. (Conditions: none.) Written by wip/tools/twice.py.
-/
import Derived.Test.YtfddpaljmihinaaGreatDoorEvFaults
namespace Go.Proofs.YtfddpaljmihinaaGreatDoor
namespace Ev
open Go
set_option maxRecDepth 1000000
theorem twice15_10 (z : Int) : (xFn seatK 1000 10 [.int .i64 (.ofNat 15), .int .i64 (.ofNat 10)] (beginMem z)).isTrue = true := by kernel_rfl
theorem twice14_10 (z : Int) : (xFn seatK 1000 10 [.int .i64 (.ofNat 14), .int .i64 (.ofNat 10)] (beginMem z)).isTrue = true := by kernel_rfl
theorem twice13_12 (z : Int) : (xFn seatK 1000 10 [.int .i64 (.ofNat 13), .int .i64 (.ofNat 12)] (beginMem z)).isTrue = true := by kernel_rfl
theorem twice11_5 (z : Int) : (xFn seatK 1000 10 [.int .i64 (.ofNat 11), .int .i64 (.ofNat 5)] (beginMem z)).isTrue = true := by kernel_rfl
theorem twice10_0 (z : Int) : (xFn seatK 1000 10 [.int .i64 (.ofNat 10), .int .i64 (.ofNat 0)] (beginMem z)).isTrue = true := by kernel_rfl
theorem twice9_0 (z : Int) : (xFn seatK 1000 10 [.int .i64 (.ofNat 9), .int .i64 (.ofNat 0)] (beginMem z)).isTrue = true := by kernel_rfl
theorem twice7_4 (z : Int) : (xFn seatK 1000 10 [.int .i64 (.ofNat 7), .int .i64 (.ofNat 4)] (beginMem z)).isTrue = true := by kernel_rfl
theorem twice3_1 (z : Int) : (xFn seatK 1000 10 [.int .i64 (.ofNat 3), .int .i64 (.ofNat 1)] (beginMem z)).isTrue = true := by kernel_rfl
theorem twice3_neg (z : Int) (k : Nat) : (xFn seatK 1000 10 [.int .i64 (.ofNat 3), .int .i64 (.negSucc k)] (beginMem z)).isTrue = true := by kernel_rfl
theorem twice6_neg (z : Int) (k : Nat) : (xFn seatK 1000 10 [.int .i64 (.ofNat 6), .int .i64 (.negSucc k)] (beginMem z)).isTrue = true := by kernel_rfl
theorem twice11_neg (z : Int) (k : Nat) : (xFn seatK 1000 10 [.int .i64 (.ofNat 11), .int .i64 (.negSucc k)] (beginMem z)).isTrue = true := by kernel_rfl
end Ev
end Go.Proofs.YtfddpaljmihinaaGreatDoor
