/-
  The evaluator at this seat, with strings.HasPrefix and the sorted keys of a map: sound. (Conditions: none.)
-/
import Derived.Test.YtfddpaljmihinaaGreatDoorEvSeat
import Derived.Test.YtfddpaljmihinaaGreatDoorEvSpecs3
import Derived.Test.YtfddpaljmihinaaGreatDoorEvSorted
import Derived.Test.YtfddpaljmihinaaGreatDoorEvIter
import Derived.Test.YtfddpaljmihinaaGreatDoorEvFast
namespace Go.Proofs.YtfddpaljmihinaaGreatDoor
namespace Ev
open Go Go.Shelf
noncomputable section

def specsS (f : Nat) : Option (List AVal → AMem → Out AVal) :=
  match f with
  | 31 => some specPrefix
  | 141 => some (specSorted 183 9)
  | f => specs f
def seatS : Tab := tab specsS globs

theorem prefix_ok : CallOk seatS Tryz.prog 31 specPrefix :=
  specPrefix_ok (enters_of Tryz.func31 (by kernel_rfl) rfl) fun s p w => Any.strings_HasPrefix Tryz.evLays99 s p w
theorem sorted_ok : CallOk seatS Tryz.prog 141 (specSorted 183 9) :=
  specSorted_ok (enters_of Tryz.func141 (by kernel_rfl) rfl) Tryz.underlying9 fun b nn Bm D0 w h1 h2 h3 h4 h5 => Tryz.evSorted b nn Bm D0 w h1 h2 h3 h4 h5

theorem specsS_ok : ∀ f F, seatS.spec f = some F → CallOk seatS Tryz.prog f F := by
  intro f F h
  have h : specsS f = some F := h
  unfold specsS at h
  split at h
  · cases h; exact prefix_ok
  · cases h; exact sorted_ok
  · exact specs_ok f F h
theorem soundS (k : Nat) (f : FuncId) : CallOk seatS Tryz.prog f (evFn seatS k f) := evFn_sound (tab_ok specsS globs) mixed specsS_ok k f
theorem soundXS (k : Nat) (f : FuncId) : CallOk seatS Tryz.prog f (xFn seatS k f) := by rw [xFn_eq]; exact soundS k f
end
end Ev
end Go.Proofs.YtfddpaljmihinaaGreatDoor
