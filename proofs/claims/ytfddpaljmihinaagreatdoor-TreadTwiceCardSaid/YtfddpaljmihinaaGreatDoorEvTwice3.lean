/-
  The kernel's runs of the evaluator: TreadTwice, part 3. (Conditions: none.) Written by wip/tools/twice.py.
-/
import Derived.Test.YtfddpaljmihinaaGreatDoorEvFaults
namespace Go.Proofs.YtfddpaljmihinaaGreatDoor
namespace Ev
open Go
set_option maxRecDepth 1000000
theorem twice15_3 (z : Int) : (xFn seatK 1000 10 [.int .i64 (.ofNat 15), .int .i64 (.ofNat 3)] (beginMem z)).isTrue = true := by kernel_rfl
theorem twice14_3 (z : Int) : (xFn seatK 1000 10 [.int .i64 (.ofNat 14), .int .i64 (.ofNat 3)] (beginMem z)).isTrue = true := by kernel_rfl
theorem twice13_5 (z : Int) : (xFn seatK 1000 10 [.int .i64 (.ofNat 13), .int .i64 (.ofNat 5)] (beginMem z)).isTrue = true := by kernel_rfl
theorem twice12_10 (z : Int) : (xFn seatK 1000 10 [.int .i64 (.ofNat 12), .int .i64 (.ofNat 10)] (beginMem z)).isTrue = true := by kernel_rfl
theorem twice10_8 (z : Int) : (xFn seatK 1000 10 [.int .i64 (.ofNat 10), .int .i64 (.ofNat 8)] (beginMem z)).isTrue = true := by kernel_rfl
theorem twice9_8 (z : Int) : (xFn seatK 1000 10 [.int .i64 (.ofNat 9), .int .i64 (.ofNat 8)] (beginMem z)).isTrue = true := by kernel_rfl
theorem twice6_5 (z : Int) : (xFn seatK 1000 10 [.int .i64 (.ofNat 6), .int .i64 (.ofNat 5)] (beginMem z)).isTrue = true := by kernel_rfl
theorem twice4_0 (z : Int) : (xFn seatK 1000 10 [.int .i64 (.ofNat 4), .int .i64 (.ofNat 0)] (beginMem z)).isTrue = true := by kernel_rfl
theorem twice7_big (z : Int) (k : Nat) : (xFn seatK 1000 10 [.int .i64 (.ofNat 7), .int .i64 (.ofNat (k + 7))] (beginMem z)).isTrue = true := by kernel_rfl
theorem twice13_big (z : Int) (k : Nat) : (xFn seatK 1000 10 [.int .i64 (.ofNat 13), .int .i64 (.ofNat (k + 13))] (beginMem z)).isTrue = true := by kernel_rfl
end Ev
end Go.Proofs.YtfddpaljmihinaaGreatDoor
