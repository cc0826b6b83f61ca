/-
  The kernel's runs of the evaluator: TreadTwice, part 5. (Conditions: none.) Written by wip/tools/twice.py.
-/
import Derived.Test.YtfddpaljmihinaaGreatDoorEvFaults
namespace Go.Proofs.YtfddpaljmihinaaGreatDoor
namespace Ev
open Go
set_option maxRecDepth 1000000
theorem twice15_5 (z : Int) : (xFn seatK 1000 10 [.int .i64 (.ofNat 15), .int .i64 (.ofNat 5)] (beginMem z)).isTrue = true := by kernel_rfl
theorem twice14_5 (z : Int) : (xFn seatK 1000 10 [.int .i64 (.ofNat 14), .int .i64 (.ofNat 5)] (beginMem z)).isTrue = true := by kernel_rfl
theorem twice13_7 (z : Int) : (xFn seatK 1000 10 [.int .i64 (.ofNat 13), .int .i64 (.ofNat 7)] (beginMem z)).isTrue = true := by kernel_rfl
theorem twice11_0 (z : Int) : (xFn seatK 1000 10 [.int .i64 (.ofNat 11), .int .i64 (.ofNat 0)] (beginMem z)).isTrue = true := by kernel_rfl
theorem twice11_6 (z : Int) : (xFn seatK 1000 10 [.int .i64 (.ofNat 11), .int .i64 (.ofNat 6)] (beginMem z)).isTrue = true := by kernel_rfl
theorem twice8_1 (z : Int) : (xFn seatK 1000 10 [.int .i64 (.ofNat 8), .int .i64 (.ofNat 1)] (beginMem z)).isTrue = true := by kernel_rfl
theorem twice8_7 (z : Int) : (xFn seatK 1000 10 [.int .i64 (.ofNat 8), .int .i64 (.ofNat 7)] (beginMem z)).isTrue = true := by kernel_rfl
theorem twice1_0 (z : Int) : (xFn seatK 1000 10 [.int .i64 (.ofNat 1), .int .i64 (.ofNat 0)] (beginMem z)).isTrue = true := by kernel_rfl
theorem twice_neg (z : Int) (k : Nat) (a : Int) : (xFn seatK 1000 10 [.int .i64 (.negSucc k), .int .i64 a] (beginMem z)).isTrue = true := by kernel_rfl
theorem twice_big (z : Int) (k : Nat) (a : Int) : (xFn seatK 1000 10 [.int .i64 (.ofNat (k + 16)), .int .i64 a] (beginMem z)).isTrue = true := by kernel_rfl
theorem twice2_neg (z : Int) (k : Nat) : (xFn seatK 1000 10 [.int .i64 (.ofNat 2), .int .i64 (.negSucc k)] (beginMem z)).isTrue = true := by kernel_rfl
theorem twice5_neg (z : Int) (k : Nat) : (xFn seatK 1000 10 [.int .i64 (.ofNat 5), .int .i64 (.negSucc k)] (beginMem z)).isTrue = true := by kernel_rfl
theorem twice8_big (z : Int) (k : Nat) : (xFn seatK 1000 10 [.int .i64 (.ofNat 8), .int .i64 (.ofNat (k + 8))] (beginMem z)).isTrue = true := by kernel_rfl
theorem twice14_big (z : Int) (k : Nat) : (xFn seatK 1000 10 [.int .i64 (.ofNat 14), .int .i64 (.ofNat (k + 14))] (beginMem z)).isTrue = true := by kernel_rfl
end Ev
end Go.Proofs.YtfddpaljmihinaaGreatDoor
