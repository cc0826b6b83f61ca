/-
  The kernel's runs of the evaluator: TreadTwice, part 11. (Conditions: none.) Written by wip/tools/twice.py.
-/
import Derived.Test.YtfddpaljmihinaaGreatDoorEvFaults
namespace Go.Proofs.YtfddpaljmihinaaGreatDoor
namespace Ev
open Go
set_option maxRecDepth 1000000
theorem twice15_11 (z : Int) : (xFn seatK 1000 10 [.int .i64 (.ofNat 15), .int .i64 (.ofNat 11)] (beginMem z)).isTrue = true := by kernel_rfl
theorem twice14_11 (z : Int) : (xFn seatK 1000 10 [.int .i64 (.ofNat 14), .int .i64 (.ofNat 11)] (beginMem z)).isTrue = true := by kernel_rfl
theorem twice12_0 (z : Int) : (xFn seatK 1000 10 [.int .i64 (.ofNat 12), .int .i64 (.ofNat 0)] (beginMem z)).isTrue = true := by kernel_rfl
theorem twice12_3 (z : Int) : (xFn seatK 1000 10 [.int .i64 (.ofNat 12), .int .i64 (.ofNat 3)] (beginMem z)).isTrue = true := by kernel_rfl
theorem twice10_1 (z : Int) : (xFn seatK 1000 10 [.int .i64 (.ofNat 10), .int .i64 (.ofNat 1)] (beginMem z)).isTrue = true := by kernel_rfl
theorem twice9_1 (z : Int) : (xFn seatK 1000 10 [.int .i64 (.ofNat 9), .int .i64 (.ofNat 1)] (beginMem z)).isTrue = true := by kernel_rfl
theorem twice7_5 (z : Int) : (xFn seatK 1000 10 [.int .i64 (.ofNat 7), .int .i64 (.ofNat 5)] (beginMem z)).isTrue = true := by kernel_rfl
theorem twice3_2 (z : Int) : (xFn seatK 1000 10 [.int .i64 (.ofNat 3), .int .i64 (.ofNat 2)] (beginMem z)).isTrue = true := by kernel_rfl
theorem twice3_big (z : Int) (k : Nat) : (xFn seatK 1000 10 [.int .i64 (.ofNat 3), .int .i64 (.ofNat (k + 3))] (beginMem z)).isTrue = true := by kernel_rfl
theorem twice6_big (z : Int) (k : Nat) : (xFn seatK 1000 10 [.int .i64 (.ofNat 6), .int .i64 (.ofNat (k + 6))] (beginMem z)).isTrue = true := by kernel_rfl
theorem twice11_big (z : Int) (k : Nat) : (xFn seatK 1000 10 [.int .i64 (.ofNat 11), .int .i64 (.ofNat (k + 11))] (beginMem z)).isTrue = true := by kernel_rfl
end Ev
end Go.Proofs.YtfddpaljmihinaaGreatDoor
