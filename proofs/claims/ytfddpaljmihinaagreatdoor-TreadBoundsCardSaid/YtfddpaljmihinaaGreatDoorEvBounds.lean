/-
  The runs of TreadBounds, at every number. (Conditions: none.) Written by wip/tools/bounds.py.
-/
import Derived.Test.YtfddpaljmihinaaGreatDoorEvBounds0
import Derived.Test.YtfddpaljmihinaaGreatDoorEvBounds1
import Derived.Test.YtfddpaljmihinaaGreatDoorEvBounds2
import Derived.Test.YtfddpaljmihinaaGreatDoorEvBounds3
import Derived.Test.YtfddpaljmihinaaGreatDoorEvBounds4
import Derived.Test.YtfddpaljmihinaaGreatDoorEvBounds5
namespace Go.Proofs.YtfddpaljmihinaaGreatDoor
namespace Ev
open Go
theorem run_bounds (z : Int) : ∀ n : Int, (xFn seatK 1000 13 [.int .i64 n] (beginMem z)).isTrue = true
  | .negSucc k => bounds_neg z k
  | .ofNat 0 => bounds_zero z
  | .ofNat 1 => boundsAt1 z
  | .ofNat 2 => boundsAt2 z
  | .ofNat 3 => boundsAt3 z
  | .ofNat 4 => boundsAt4 z
  | .ofNat 5 => boundsAt5 z
  | .ofNat 6 => boundsAt6 z
  | .ofNat 7 => boundsAt7 z
  | .ofNat 8 => boundsAt8 z
  | .ofNat 9 => boundsAt9 z
  | .ofNat 10 => boundsAt10 z
  | .ofNat 11 => boundsAt11 z
  | .ofNat 12 => boundsAt12 z
  | .ofNat 13 => boundsAt13 z
  | .ofNat 14 => boundsAt14 z
  | .ofNat 15 => boundsAt15 z
  | .ofNat 16 => bounds16 z
  | .ofNat 17 => bounds17 z
  | .ofNat 18 => bounds18 z
  | .ofNat 19 => bounds19 z
  | .ofNat 20 => bounds20 z
  | .ofNat 21 => bounds21 z
  | .ofNat 22 => bounds22 z
  | .ofNat 23 => bounds23 z
  | .ofNat 24 => bounds24 z
  | .ofNat 25 => bounds25 z
  | .ofNat 26 => bounds26 z
  | .ofNat 27 => bounds27 z
  | .ofNat 28 => bounds28 z
  | .ofNat 29 => bounds29 z
  | .ofNat 30 => bounds30 z
  | .ofNat 31 => bounds31 z
  | .ofNat 32 => bounds32 z
  | .ofNat 33 => bounds33 z
  | .ofNat 34 => bounds34 z
  | .ofNat 35 => bounds35 z
  | .ofNat 36 => bounds36 z
  | .ofNat 37 => bounds37 z
  | .ofNat 38 => bounds38 z
  | .ofNat 39 => bounds39 z
  | .ofNat 40 => bounds40 z
  | .ofNat (k + 41) => bounds_big z k
end Ev
end Go.Proofs.YtfddpaljmihinaaGreatDoor
