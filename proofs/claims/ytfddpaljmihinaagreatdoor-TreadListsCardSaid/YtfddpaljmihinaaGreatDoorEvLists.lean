/-
  The runs of TreadLists, at every number. (Conditions: none.) Written by wip/tools/lists.py.
-/
import Derived.Test.YtfddpaljmihinaaGreatDoorEvLists0
import Derived.Test.YtfddpaljmihinaaGreatDoorEvLists1
import Derived.Test.YtfddpaljmihinaaGreatDoorEvLists2
import Derived.Test.YtfddpaljmihinaaGreatDoorEvLists3
import Derived.Test.YtfddpaljmihinaaGreatDoorEvLists4
import Derived.Test.YtfddpaljmihinaaGreatDoorEvLists5
import Derived.Test.YtfddpaljmihinaaGreatDoorEvLists6
import Derived.Test.YtfddpaljmihinaaGreatDoorEvLists7
import Derived.Test.YtfddpaljmihinaaGreatDoorEvLists8
import Derived.Test.YtfddpaljmihinaaGreatDoorEvLists9
import Derived.Test.YtfddpaljmihinaaGreatDoorEvLists10
import Derived.Test.YtfddpaljmihinaaGreatDoorEvLists11
import Derived.Test.YtfddpaljmihinaaGreatDoorEvLists12
import Derived.Test.YtfddpaljmihinaaGreatDoorEvLists13
import Derived.Test.YtfddpaljmihinaaGreatDoorEvLists14
import Derived.Test.YtfddpaljmihinaaGreatDoorEvLists15
import Derived.Test.YtfddpaljmihinaaGreatDoorEvLists16
import Derived.Test.YtfddpaljmihinaaGreatDoorEvLists17
namespace Go.Proofs.YtfddpaljmihinaaGreatDoor
namespace Ev
open Go
set_option maxRecDepth 1000000
theorem run_lists (z : Int) : ∀ (n : Int) (b : Bool), (xFn seatK 1000 11 [.int .i64 n, .bool b] (beginMem z)).isTrue = true
  | .negSucc k, b => lists_neg z k b
  | .ofNat 0, b => lists_zero z b
  | .ofNat 1, false => lists1_false z
  | .ofNat 1, true => lists1_true z
  | .ofNat 2, false => lists2_false z
  | .ofNat 2, true => lists2_true z
  | .ofNat 3, false => lists3_false z
  | .ofNat 3, true => lists3_true z
  | .ofNat 4, false => lists4_false z
  | .ofNat 4, true => lists4_true z
  | .ofNat 5, false => lists5_false z
  | .ofNat 5, true => lists5_true z
  | .ofNat 6, false => lists6_false z
  | .ofNat 6, true => lists6_true z
  | .ofNat 7, false => lists7_false z
  | .ofNat 7, true => lists7_true z
  | .ofNat 8, false => lists8_false z
  | .ofNat 8, true => lists8_true z
  | .ofNat 9, false => lists9_false z
  | .ofNat 9, true => lists9_true z
  | .ofNat 10, false => lists10_false z
  | .ofNat 10, true => lists10_true z
  | .ofNat 11, false => lists11_false z
  | .ofNat 11, true => lists11_true z
  | .ofNat 12, false => lists12_false z
  | .ofNat 12, true => lists12_true z
  | .ofNat 13, false => lists13_false z
  | .ofNat 13, true => lists13_true z
  | .ofNat 14, false => lists14_false z
  | .ofNat 14, true => lists14_true z
  | .ofNat 15, false => lists15_false z
  | .ofNat 15, true => lists15_true z
  | .ofNat 16, false => lists16_false z
  | .ofNat 16, true => lists16_true z
  | .ofNat 17, false => lists17_false z
  | .ofNat 17, true => lists17_true z
  | .ofNat 18, false => lists18_false z
  | .ofNat 18, true => lists18_true z
  | .ofNat 19, false => lists19_false z
  | .ofNat 19, true => lists19_true z
  | .ofNat 20, false => lists20_false z
  | .ofNat 20, true => lists20_true z
  | .ofNat 21, false => lists21_false z
  | .ofNat 21, true => lists21_true z
  | .ofNat 22, false => lists22_false z
  | .ofNat 22, true => lists22_true z
  | .ofNat 23, false => lists23_false z
  | .ofNat 23, true => lists23_true z
  | .ofNat 24, false => lists24_false z
  | .ofNat 24, true => lists24_true z
  | .ofNat 25, false => lists25_false z
  | .ofNat 25, true => lists25_true z
  | .ofNat 26, false => lists26_false z
  | .ofNat 26, true => lists26_true z
  | .ofNat 27, false => lists27_false z
  | .ofNat 27, true => lists27_true z
  | .ofNat 28, false => lists28_false z
  | .ofNat 28, true => lists28_true z
  | .ofNat 29, false => lists29_false z
  | .ofNat 29, true => lists29_true z
  | .ofNat 30, false => lists30_false z
  | .ofNat 30, true => lists30_true z
  | .ofNat (k + 31), b => lists_big z k b
end Ev
end Go.Proofs.YtfddpaljmihinaaGreatDoor
