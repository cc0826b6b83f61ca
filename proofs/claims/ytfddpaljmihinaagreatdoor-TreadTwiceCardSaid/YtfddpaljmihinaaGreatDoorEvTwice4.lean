/-
  The kernel's runs of the evaluator: TreadTwice, part 4. (Conditions: none.) Written by wip/tools/twice.py.
-/
import Derived.Test.YtfddpaljmihinaaGreatDoorEvFaults
namespace Go.Proofs.YtfddpaljmihinaaGreatDoor
namespace Ev
open Go
set_option maxRecDepth 1000000
theorem twice15_4 (z : Int) : (xFn seatK 1000 10 [.int .i64 (.ofNat 15), .int .i64 (.ofNat 4)] (beginMem z)).isTrue = true := by kernel_rfl
theorem twice14_4 (z : Int) : (xFn seatK 1000 10 [.int .i64 (.ofNat 14), .int .i64 (.ofNat 4)] (beginMem z)).isTrue = true := by kernel_rfl
theorem twice13_6 (z : Int) : (xFn seatK 1000 10 [.int .i64 (.ofNat 13), .int .i64 (.ofNat 6)] (beginMem z)).isTrue = true := by kernel_rfl
theorem twice12_11 (z : Int) : (xFn seatK 1000 10 [.int .i64 (.ofNat 12), .int .i64 (.ofNat 11)] (beginMem z)).isTrue = true := by kernel_rfl
theorem twice10_9 (z : Int) : (xFn seatK 1000 10 [.int .i64 (.ofNat 10), .int .i64 (.ofNat 9)] (beginMem z)).isTrue = true := by kernel_rfl
theorem twice8_0 (z : Int) : (xFn seatK 1000 10 [.int .i64 (.ofNat 8), .int .i64 (.ofNat 0)] (beginMem z)).isTrue = true := by kernel_rfl
theorem twice8_6 (z : Int) : (xFn seatK 1000 10 [.int .i64 (.ofNat 8), .int .i64 (.ofNat 6)] (beginMem z)).isTrue = true := by kernel_rfl
theorem twice2_1 (z : Int) : (xFn seatK 1000 10 [.int .i64 (.ofNat 2), .int .i64 (.ofNat 1)] (beginMem z)).isTrue = true := by kernel_rfl
theorem twice1_big (z : Int) (k : Nat) : (xFn seatK 1000 10 [.int .i64 (.ofNat 1), .int .i64 (.ofNat (k + 1))] (beginMem z)).isTrue = true := by kernel_rfl
theorem twice4_big (z : Int) (k : Nat) : (xFn seatK 1000 10 [.int .i64 (.ofNat 4), .int .i64 (.ofNat (k + 4))] (beginMem z)).isTrue = true := by kernel_rfl
theorem twice8_neg (z : Int) (k : Nat) : (xFn seatK 1000 10 [.int .i64 (.ofNat 8), .int .i64 (.negSucc k)] (beginMem z)).isTrue = true := by kernel_rfl
theorem twice14_neg (z : Int) (k : Nat) : (xFn seatK 1000 10 [.int .i64 (.ofNat 14), .int .i64 (.negSucc k)] (beginMem z)).isTrue = true := by kernel_rfl
end Ev
end Go.Proofs.YtfddpaljmihinaaGreatDoor
