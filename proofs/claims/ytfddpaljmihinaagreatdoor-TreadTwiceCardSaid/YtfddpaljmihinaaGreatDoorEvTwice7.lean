/-
  The kernel's runs of the evaluator: TreadTwice, part 7. (Conditions: none.) Written by wip/tools/twice.py.
-/
import Derived.Test.YtfddpaljmihinaaGreatDoorEvFaults
namespace Go.Proofs.YtfddpaljmihinaaGreatDoor
namespace Ev
open Go
set_option maxRecDepth 1000000
theorem twice15_7 (z : Int) : (xFn seatK 1000 10 [.int .i64 (.ofNat 15), .int .i64 (.ofNat 7)] (beginMem z)).isTrue = true := by kernel_rfl
theorem twice14_7 (z : Int) : (xFn seatK 1000 10 [.int .i64 (.ofNat 14), .int .i64 (.ofNat 7)] (beginMem z)).isTrue = true := by kernel_rfl
theorem twice13_9 (z : Int) : (xFn seatK 1000 10 [.int .i64 (.ofNat 13), .int .i64 (.ofNat 9)] (beginMem z)).isTrue = true := by kernel_rfl
theorem twice11_2 (z : Int) : (xFn seatK 1000 10 [.int .i64 (.ofNat 11), .int .i64 (.ofNat 2)] (beginMem z)).isTrue = true := by kernel_rfl
theorem twice11_8 (z : Int) : (xFn seatK 1000 10 [.int .i64 (.ofNat 11), .int .i64 (.ofNat 8)] (beginMem z)).isTrue = true := by kernel_rfl
theorem twice8_3 (z : Int) : (xFn seatK 1000 10 [.int .i64 (.ofNat 8), .int .i64 (.ofNat 3)] (beginMem z)).isTrue = true := by kernel_rfl
theorem twice7_1 (z : Int) : (xFn seatK 1000 10 [.int .i64 (.ofNat 7), .int .i64 (.ofNat 1)] (beginMem z)).isTrue = true := by kernel_rfl
theorem twice4_2 (z : Int) : (xFn seatK 1000 10 [.int .i64 (.ofNat 4), .int .i64 (.ofNat 2)] (beginMem z)).isTrue = true := by kernel_rfl
theorem twice9_big (z : Int) (k : Nat) : (xFn seatK 1000 10 [.int .i64 (.ofNat 9), .int .i64 (.ofNat (k + 9))] (beginMem z)).isTrue = true := by kernel_rfl
theorem twice15_big (z : Int) (k : Nat) : (xFn seatK 1000 10 [.int .i64 (.ofNat 15), .int .i64 (.ofNat (k + 15))] (beginMem z)).isTrue = true := by kernel_rfl
end Ev
end Go.Proofs.YtfddpaljmihinaaGreatDoor
