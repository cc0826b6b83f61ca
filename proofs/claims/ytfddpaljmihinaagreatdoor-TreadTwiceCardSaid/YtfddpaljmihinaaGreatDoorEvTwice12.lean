/-
  The kernel's runs of the evaluator: TreadTwice, part 12. (Conditions: none.) Written by wip/tools/twice.py.
-/
import Derived.Test.YtfddpaljmihinaaGreatDoorEvFaults
namespace Go.Proofs.YtfddpaljmihinaaGreatDoor
namespace Ev
open Go
set_option maxRecDepth 1000000
theorem twice15_12 (z : Int) : (xFn seatK 1000 10 [.int .i64 (.ofNat 15), .int .i64 (.ofNat 12)] (beginMem z)).isTrue = true := by kernel_rfl
theorem twice14_12 (z : Int) : (xFn seatK 1000 10 [.int .i64 (.ofNat 14), .int .i64 (.ofNat 12)] (beginMem z)).isTrue = true := by kernel_rfl
theorem twice12_1 (z : Int) : (xFn seatK 1000 10 [.int .i64 (.ofNat 12), .int .i64 (.ofNat 1)] (beginMem z)).isTrue = true := by kernel_rfl
theorem twice12_4 (z : Int) : (xFn seatK 1000 10 [.int .i64 (.ofNat 12), .int .i64 (.ofNat 4)] (beginMem z)).isTrue = true := by kernel_rfl
theorem twice10_2 (z : Int) : (xFn seatK 1000 10 [.int .i64 (.ofNat 10), .int .i64 (.ofNat 2)] (beginMem z)).isTrue = true := by kernel_rfl
theorem twice9_2 (z : Int) : (xFn seatK 1000 10 [.int .i64 (.ofNat 9), .int .i64 (.ofNat 2)] (beginMem z)).isTrue = true := by kernel_rfl
theorem twice7_6 (z : Int) : (xFn seatK 1000 10 [.int .i64 (.ofNat 7), .int .i64 (.ofNat 6)] (beginMem z)).isTrue = true := by kernel_rfl
theorem twice2_0 (z : Int) : (xFn seatK 1000 10 [.int .i64 (.ofNat 2), .int .i64 (.ofNat 0)] (beginMem z)).isTrue = true := by kernel_rfl
theorem twice_zero (z : Int) (a : Int) : (xFn seatK 1000 10 [.int .i64 (.ofNat 0), .int .i64 a] (beginMem z)).isTrue = true := by kernel_rfl
theorem twice1_neg (z : Int) (k : Nat) : (xFn seatK 1000 10 [.int .i64 (.ofNat 1), .int .i64 (.negSucc k)] (beginMem z)).isTrue = true := by kernel_rfl
theorem twice4_neg (z : Int) (k : Nat) : (xFn seatK 1000 10 [.int .i64 (.ofNat 4), .int .i64 (.negSucc k)] (beginMem z)).isTrue = true := by kernel_rfl
theorem twice7_neg (z : Int) (k : Nat) : (xFn seatK 1000 10 [.int .i64 (.ofNat 7), .int .i64 (.negSucc k)] (beginMem z)).isTrue = true := by kernel_rfl
theorem twice12_neg (z : Int) (k : Nat) : (xFn seatK 1000 10 [.int .i64 (.ofNat 12), .int .i64 (.negSucc k)] (beginMem z)).isTrue = true := by kernel_rfl
end Ev
end Go.Proofs.YtfddpaljmihinaaGreatDoor
