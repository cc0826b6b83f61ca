/-
  The kernel's runs of the evaluator: TreadBounds, n from 1 to 15. (Conditions: none.) Written by wip/tools/bounds.py.
-/
import Derived.Test.YtfddpaljmihinaaGreatDoorEvFaults
namespace Go.Proofs.YtfddpaljmihinaaGreatDoor
namespace Ev
open Go
set_option maxRecDepth 1000000
theorem bounds_neg (z : Int) (k : Nat) : (xFn seatK 1000 13 [.int .i64 (.negSucc k)] (beginMem z)).isTrue = true := by kernel_rfl
theorem bounds_zero (z : Int) : (xFn seatK 1000 13 [.int .i64 (.ofNat 0)] (beginMem z)).isTrue = true := by kernel_rfl
theorem bounds_big (z : Int) (k : Nat) : (xFn seatK 1000 13 [.int .i64 (.ofNat (k + 41))] (beginMem z)).isTrue = true := by kernel_rfl
theorem boundsAt1 (z : Int) : (xFn seatK 1000 13 [.int .i64 (.ofNat 1)] (beginMem z)).isTrue = true := by kernel_rfl
theorem boundsAt2 (z : Int) : (xFn seatK 1000 13 [.int .i64 (.ofNat 2)] (beginMem z)).isTrue = true := by kernel_rfl
theorem boundsAt3 (z : Int) : (xFn seatK 1000 13 [.int .i64 (.ofNat 3)] (beginMem z)).isTrue = true := by kernel_rfl
theorem boundsAt4 (z : Int) : (xFn seatK 1000 13 [.int .i64 (.ofNat 4)] (beginMem z)).isTrue = true := by kernel_rfl
theorem boundsAt5 (z : Int) : (xFn seatK 1000 13 [.int .i64 (.ofNat 5)] (beginMem z)).isTrue = true := by kernel_rfl
theorem boundsAt6 (z : Int) : (xFn seatK 1000 13 [.int .i64 (.ofNat 6)] (beginMem z)).isTrue = true := by kernel_rfl
theorem boundsAt7 (z : Int) : (xFn seatK 1000 13 [.int .i64 (.ofNat 7)] (beginMem z)).isTrue = true := by kernel_rfl
theorem boundsAt8 (z : Int) : (xFn seatK 1000 13 [.int .i64 (.ofNat 8)] (beginMem z)).isTrue = true := by kernel_rfl
theorem boundsAt9 (z : Int) : (xFn seatK 1000 13 [.int .i64 (.ofNat 9)] (beginMem z)).isTrue = true := by kernel_rfl
theorem boundsAt10 (z : Int) : (xFn seatK 1000 13 [.int .i64 (.ofNat 10)] (beginMem z)).isTrue = true := by kernel_rfl
theorem boundsAt11 (z : Int) : (xFn seatK 1000 13 [.int .i64 (.ofNat 11)] (beginMem z)).isTrue = true := by kernel_rfl
theorem boundsAt12 (z : Int) : (xFn seatK 1000 13 [.int .i64 (.ofNat 12)] (beginMem z)).isTrue = true := by kernel_rfl
theorem boundsAt13 (z : Int) : (xFn seatK 1000 13 [.int .i64 (.ofNat 13)] (beginMem z)).isTrue = true := by kernel_rfl
theorem boundsAt14 (z : Int) : (xFn seatK 1000 13 [.int .i64 (.ofNat 14)] (beginMem z)).isTrue = true := by kernel_rfl
theorem boundsAt15 (z : Int) : (xFn seatK 1000 13 [.int .i64 (.ofNat 15)] (beginMem z)).isTrue = true := by kernel_rfl
end Ev
end Go.Proofs.YtfddpaljmihinaaGreatDoor
