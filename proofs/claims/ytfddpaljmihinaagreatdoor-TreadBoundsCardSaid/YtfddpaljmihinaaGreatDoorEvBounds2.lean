/-
  The kernel's runs of the evaluator: TreadBounds, n from 22 to 26. (Conditions: none.) Written by wip/tools/bounds.py.
-/
import Derived.Test.YtfddpaljmihinaaGreatDoorEvFaults
namespace Go.Proofs.YtfddpaljmihinaaGreatDoor
namespace Ev
open Go
set_option maxRecDepth 1000000
theorem bounds22 (z : Int) : (xFn seatK 1000 13 [.int .i64 (.ofNat 22)] (beginMem z)).isTrue = true := by kernel_rfl
theorem bounds23 (z : Int) : (xFn seatK 1000 13 [.int .i64 (.ofNat 23)] (beginMem z)).isTrue = true := by kernel_rfl
theorem bounds24 (z : Int) : (xFn seatK 1000 13 [.int .i64 (.ofNat 24)] (beginMem z)).isTrue = true := by kernel_rfl
theorem bounds25 (z : Int) : (xFn seatK 1000 13 [.int .i64 (.ofNat 25)] (beginMem z)).isTrue = true := by kernel_rfl
theorem bounds26 (z : Int) : (xFn seatK 1000 13 [.int .i64 (.ofNat 26)] (beginMem z)).isTrue = true := by kernel_rfl
end Ev
end Go.Proofs.YtfddpaljmihinaaGreatDoor
