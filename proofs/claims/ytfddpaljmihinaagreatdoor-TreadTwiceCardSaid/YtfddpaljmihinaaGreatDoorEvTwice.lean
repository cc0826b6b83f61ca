/-
  The runs of TreadTwice, at every pair of numbers. (Conditions: none.) Written by wip/tools/twice.py.
-/
import Derived.Test.YtfddpaljmihinaaGreatDoorEvTwice0
import Derived.Test.YtfddpaljmihinaaGreatDoorEvTwice1
import Derived.Test.YtfddpaljmihinaaGreatDoorEvTwice2
import Derived.Test.YtfddpaljmihinaaGreatDoorEvTwice3
import Derived.Test.YtfddpaljmihinaaGreatDoorEvTwice4
import Derived.Test.YtfddpaljmihinaaGreatDoorEvTwice5
import Derived.Test.YtfddpaljmihinaaGreatDoorEvTwice6
import Derived.Test.YtfddpaljmihinaaGreatDoorEvTwice7
import Derived.Test.YtfddpaljmihinaaGreatDoorEvTwice8
import Derived.Test.YtfddpaljmihinaaGreatDoorEvTwice9
import Derived.Test.YtfddpaljmihinaaGreatDoorEvTwice10
import Derived.Test.YtfddpaljmihinaaGreatDoorEvTwice11
import Derived.Test.YtfddpaljmihinaaGreatDoorEvTwice12
import Derived.Test.YtfddpaljmihinaaGreatDoorEvTwice13
import Derived.Test.YtfddpaljmihinaaGreatDoorEvTwice14
namespace Go.Proofs.YtfddpaljmihinaaGreatDoor
namespace Ev
open Go
set_option maxRecDepth 1000000
theorem twiceAt1 (z : Int) : ∀ a : Int, (xFn seatK 1000 10 [.int .i64 (.ofNat 1), .int .i64 a] (beginMem z)).isTrue = true
  | .negSucc k => twice1_neg z k
  | .ofNat 0 => twice1_0 z
  | .ofNat (k + 1) => twice1_big z k
theorem twiceAt2 (z : Int) : ∀ a : Int, (xFn seatK 1000 10 [.int .i64 (.ofNat 2), .int .i64 a] (beginMem z)).isTrue = true
  | .negSucc k => twice2_neg z k
  | .ofNat 0 => twice2_0 z
  | .ofNat 1 => twice2_1 z
  | .ofNat (k + 2) => twice2_big z k
theorem twiceAt3 (z : Int) : ∀ a : Int, (xFn seatK 1000 10 [.int .i64 (.ofNat 3), .int .i64 a] (beginMem z)).isTrue = true
  | .negSucc k => twice3_neg z k
  | .ofNat 0 => twice3_0 z
  | .ofNat 1 => twice3_1 z
  | .ofNat 2 => twice3_2 z
  | .ofNat (k + 3) => twice3_big z k
theorem twiceAt4 (z : Int) : ∀ a : Int, (xFn seatK 1000 10 [.int .i64 (.ofNat 4), .int .i64 a] (beginMem z)).isTrue = true
  | .negSucc k => twice4_neg z k
  | .ofNat 0 => twice4_0 z
  | .ofNat 1 => twice4_1 z
  | .ofNat 2 => twice4_2 z
  | .ofNat 3 => twice4_3 z
  | .ofNat (k + 4) => twice4_big z k
theorem twiceAt5 (z : Int) : ∀ a : Int, (xFn seatK 1000 10 [.int .i64 (.ofNat 5), .int .i64 a] (beginMem z)).isTrue = true
  | .negSucc k => twice5_neg z k
  | .ofNat 0 => twice5_0 z
  | .ofNat 1 => twice5_1 z
  | .ofNat 2 => twice5_2 z
  | .ofNat 3 => twice5_3 z
  | .ofNat 4 => twice5_4 z
  | .ofNat (k + 5) => twice5_big z k
theorem twiceAt6 (z : Int) : ∀ a : Int, (xFn seatK 1000 10 [.int .i64 (.ofNat 6), .int .i64 a] (beginMem z)).isTrue = true
  | .negSucc k => twice6_neg z k
  | .ofNat 0 => twice6_0 z
  | .ofNat 1 => twice6_1 z
  | .ofNat 2 => twice6_2 z
  | .ofNat 3 => twice6_3 z
  | .ofNat 4 => twice6_4 z
  | .ofNat 5 => twice6_5 z
  | .ofNat (k + 6) => twice6_big z k
theorem twiceAt7 (z : Int) : ∀ a : Int, (xFn seatK 1000 10 [.int .i64 (.ofNat 7), .int .i64 a] (beginMem z)).isTrue = true
  | .negSucc k => twice7_neg z k
  | .ofNat 0 => twice7_0 z
  | .ofNat 1 => twice7_1 z
  | .ofNat 2 => twice7_2 z
  | .ofNat 3 => twice7_3 z
  | .ofNat 4 => twice7_4 z
  | .ofNat 5 => twice7_5 z
  | .ofNat 6 => twice7_6 z
  | .ofNat (k + 7) => twice7_big z k
theorem twiceAt8 (z : Int) : ∀ a : Int, (xFn seatK 1000 10 [.int .i64 (.ofNat 8), .int .i64 a] (beginMem z)).isTrue = true
  | .negSucc k => twice8_neg z k
  | .ofNat 0 => twice8_0 z
  | .ofNat 1 => twice8_1 z
  | .ofNat 2 => twice8_2 z
  | .ofNat 3 => twice8_3 z
  | .ofNat 4 => twice8_4 z
  | .ofNat 5 => twice8_5 z
  | .ofNat 6 => twice8_6 z
  | .ofNat 7 => twice8_7 z
  | .ofNat (k + 8) => twice8_big z k
theorem twiceAt9 (z : Int) : ∀ a : Int, (xFn seatK 1000 10 [.int .i64 (.ofNat 9), .int .i64 a] (beginMem z)).isTrue = true
  | .negSucc k => twice9_neg z k
  | .ofNat 0 => twice9_0 z
  | .ofNat 1 => twice9_1 z
  | .ofNat 2 => twice9_2 z
  | .ofNat 3 => twice9_3 z
  | .ofNat 4 => twice9_4 z
  | .ofNat 5 => twice9_5 z
  | .ofNat 6 => twice9_6 z
  | .ofNat 7 => twice9_7 z
  | .ofNat 8 => twice9_8 z
  | .ofNat (k + 9) => twice9_big z k
theorem twiceAt10 (z : Int) : ∀ a : Int, (xFn seatK 1000 10 [.int .i64 (.ofNat 10), .int .i64 a] (beginMem z)).isTrue = true
  | .negSucc k => twice10_neg z k
  | .ofNat 0 => twice10_0 z
  | .ofNat 1 => twice10_1 z
  | .ofNat 2 => twice10_2 z
  | .ofNat 3 => twice10_3 z
  | .ofNat 4 => twice10_4 z
  | .ofNat 5 => twice10_5 z
  | .ofNat 6 => twice10_6 z
  | .ofNat 7 => twice10_7 z
  | .ofNat 8 => twice10_8 z
  | .ofNat 9 => twice10_9 z
  | .ofNat (k + 10) => twice10_big z k
theorem twiceAt11 (z : Int) : ∀ a : Int, (xFn seatK 1000 10 [.int .i64 (.ofNat 11), .int .i64 a] (beginMem z)).isTrue = true
  | .negSucc k => twice11_neg z k
  | .ofNat 0 => twice11_0 z
  | .ofNat 1 => twice11_1 z
  | .ofNat 2 => twice11_2 z
  | .ofNat 3 => twice11_3 z
  | .ofNat 4 => twice11_4 z
  | .ofNat 5 => twice11_5 z
  | .ofNat 6 => twice11_6 z
  | .ofNat 7 => twice11_7 z
  | .ofNat 8 => twice11_8 z
  | .ofNat 9 => twice11_9 z
  | .ofNat 10 => twice11_10 z
  | .ofNat (k + 11) => twice11_big z k
theorem twiceAt12 (z : Int) : ∀ a : Int, (xFn seatK 1000 10 [.int .i64 (.ofNat 12), .int .i64 a] (beginMem z)).isTrue = true
  | .negSucc k => twice12_neg z k
  | .ofNat 0 => twice12_0 z
  | .ofNat 1 => twice12_1 z
  | .ofNat 2 => twice12_2 z
  | .ofNat 3 => twice12_3 z
  | .ofNat 4 => twice12_4 z
  | .ofNat 5 => twice12_5 z
  | .ofNat 6 => twice12_6 z
  | .ofNat 7 => twice12_7 z
  | .ofNat 8 => twice12_8 z
  | .ofNat 9 => twice12_9 z
  | .ofNat 10 => twice12_10 z
  | .ofNat 11 => twice12_11 z
  | .ofNat (k + 12) => twice12_big z k
theorem twiceAt13 (z : Int) : ∀ a : Int, (xFn seatK 1000 10 [.int .i64 (.ofNat 13), .int .i64 a] (beginMem z)).isTrue = true
  | .negSucc k => twice13_neg z k
  | .ofNat 0 => twice13_0 z
  | .ofNat 1 => twice13_1 z
  | .ofNat 2 => twice13_2 z
  | .ofNat 3 => twice13_3 z
  | .ofNat 4 => twice13_4 z
  | .ofNat 5 => twice13_5 z
  | .ofNat 6 => twice13_6 z
  | .ofNat 7 => twice13_7 z
  | .ofNat 8 => twice13_8 z
  | .ofNat 9 => twice13_9 z
  | .ofNat 10 => twice13_10 z
  | .ofNat 11 => twice13_11 z
  | .ofNat 12 => twice13_12 z
  | .ofNat (k + 13) => twice13_big z k
theorem twiceAt14 (z : Int) : ∀ a : Int, (xFn seatK 1000 10 [.int .i64 (.ofNat 14), .int .i64 a] (beginMem z)).isTrue = true
  | .negSucc k => twice14_neg z k
  | .ofNat 0 => twice14_0 z
  | .ofNat 1 => twice14_1 z
  | .ofNat 2 => twice14_2 z
  | .ofNat 3 => twice14_3 z
  | .ofNat 4 => twice14_4 z
  | .ofNat 5 => twice14_5 z
  | .ofNat 6 => twice14_6 z
  | .ofNat 7 => twice14_7 z
  | .ofNat 8 => twice14_8 z
  | .ofNat 9 => twice14_9 z
  | .ofNat 10 => twice14_10 z
  | .ofNat 11 => twice14_11 z
  | .ofNat 12 => twice14_12 z
  | .ofNat 13 => twice14_13 z
  | .ofNat (k + 14) => twice14_big z k
theorem twiceAt15 (z : Int) : ∀ a : Int, (xFn seatK 1000 10 [.int .i64 (.ofNat 15), .int .i64 a] (beginMem z)).isTrue = true
  | .negSucc k => twice15_neg z k
  | .ofNat 0 => twice15_0 z
  | .ofNat 1 => twice15_1 z
  | .ofNat 2 => twice15_2 z
  | .ofNat 3 => twice15_3 z
  | .ofNat 4 => twice15_4 z
  | .ofNat 5 => twice15_5 z
  | .ofNat 6 => twice15_6 z
  | .ofNat 7 => twice15_7 z
  | .ofNat 8 => twice15_8 z
  | .ofNat 9 => twice15_9 z
  | .ofNat 10 => twice15_10 z
  | .ofNat 11 => twice15_11 z
  | .ofNat 12 => twice15_12 z
  | .ofNat 13 => twice15_13 z
  | .ofNat 14 => twice15_14 z
  | .ofNat (k + 15) => twice15_big z k
theorem run_twice (z : Int) : ∀ n a : Int, (xFn seatK 1000 10 [.int .i64 n, .int .i64 a] (beginMem z)).isTrue = true
  | .negSucc k, a => twice_neg z k a
  | .ofNat 0, a => twice_zero z a
  | .ofNat 1, a => twiceAt1 z a
  | .ofNat 2, a => twiceAt2 z a
  | .ofNat 3, a => twiceAt3 z a
  | .ofNat 4, a => twiceAt4 z a
  | .ofNat 5, a => twiceAt5 z a
  | .ofNat 6, a => twiceAt6 z a
  | .ofNat 7, a => twiceAt7 z a
  | .ofNat 8, a => twiceAt8 z a
  | .ofNat 9, a => twiceAt9 z a
  | .ofNat 10, a => twiceAt10 z a
  | .ofNat 11, a => twiceAt11 z a
  | .ofNat 12, a => twiceAt12 z a
  | .ofNat 13, a => twiceAt13 z a
  | .ofNat 14, a => twiceAt14 z a
  | .ofNat 15, a => twiceAt15 z a
  | .ofNat (k + 16), a => twice_big z k a
end Ev
end Go.Proofs.YtfddpaljmihinaaGreatDoor
