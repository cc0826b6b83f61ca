/-
  The kernel's runs of the evaluator: TreadTwice, part 9. (Conditions: none.) Written by wip/tools/twice.py.
-/
import Derived.Test.YtfddpaljmihinaaGreatDoorEvFaults
namespace Go.Proofs.YtfddpaljmihinaaGreatDoor
namespace Ev
open Go
set_option maxRecDepth 1000000
theorem twice15_9 (z : Int) : (xFn seatK 1000 10 [.int .i64 (.ofNat 15), .int .i64 (.ofNat 9)] (beginMem z)).isTrue = true := by kernel_rfl
theorem twice14_9 (z : Int) : (xFn seatK 1000 10 [.int .i64 (.ofNat 14), .int .i64 (.ofNat 9)] (beginMem z)).isTrue = true := by kernel_rfl
theorem twice13_11 (z : Int) : (xFn seatK 1000 10 [.int .i64 (.ofNat 13), .int .i64 (.ofNat 11)] (beginMem z)).isTrue = true := by kernel_rfl
theorem twice11_4 (z : Int) : (xFn seatK 1000 10 [.int .i64 (.ofNat 11), .int .i64 (.ofNat 4)] (beginMem z)).isTrue = true := by kernel_rfl
theorem twice11_10 (z : Int) : (xFn seatK 1000 10 [.int .i64 (.ofNat 11), .int .i64 (.ofNat 10)] (beginMem z)).isTrue = true := by kernel_rfl
theorem twice8_5 (z : Int) : (xFn seatK 1000 10 [.int .i64 (.ofNat 8), .int .i64 (.ofNat 5)] (beginMem z)).isTrue = true := by kernel_rfl
theorem twice7_3 (z : Int) : (xFn seatK 1000 10 [.int .i64 (.ofNat 7), .int .i64 (.ofNat 3)] (beginMem z)).isTrue = true := by kernel_rfl
theorem twice3_0 (z : Int) : (xFn seatK 1000 10 [.int .i64 (.ofNat 3), .int .i64 (.ofNat 0)] (beginMem z)).isTrue = true := by kernel_rfl
theorem twice2_big (z : Int) (k : Nat) : (xFn seatK 1000 10 [.int .i64 (.ofNat 2), .int .i64 (.ofNat (k + 2))] (beginMem z)).isTrue = true := by kernel_rfl
theorem twice5_big (z : Int) (k : Nat) : (xFn seatK 1000 10 [.int .i64 (.ofNat 5), .int .i64 (.ofNat (k + 5))] (beginMem z)).isTrue = true := by kernel_rfl
theorem twice10_big (z : Int) (k : Nat) : (xFn seatK 1000 10 [.int .i64 (.ofNat 10), .int .i64 (.ofNat (k + 10))] (beginMem z)).isTrue = true := by kernel_rfl
end Ev
end Go.Proofs.YtfddpaljmihinaaGreatDoor
