/-
  The kernel's runs of the evaluator: TreadBounds, n from 36 to 40. (Conditions: none.) Written by wip/tools/bounds.py.
-/
import Derived.Test.YtfddpaljmihinaaGreatDoorEvFaults
namespace Go.Proofs.YtfddpaljmihinaaGreatDoor
namespace Ev
open Go
set_option maxRecDepth 1000000
theorem bounds36 (z : Int) : (xFn seatK 1000 13 [.int .i64 (.ofNat 36)] (beginMem z)).isTrue = true := by kernel_rfl
theorem bounds37 (z : Int) : (xFn seatK 1000 13 [.int .i64 (.ofNat 37)] (beginMem z)).isTrue = true := by kernel_rfl
theorem bounds38 (z : Int) : (xFn seatK 1000 13 [.int .i64 (.ofNat 38)] (beginMem z)).isTrue = true := by kernel_rfl
theorem bounds39 (z : Int) : (xFn seatK 1000 13 [.int .i64 (.ofNat 39)] (beginMem z)).isTrue = true := by kernel_rfl
theorem bounds40 (z : Int) : (xFn seatK 1000 13 [.int .i64 (.ofNat 40)] (beginMem z)).isTrue = true := by kernel_rfl
end Ev
end Go.Proofs.YtfddpaljmihinaaGreatDoor
