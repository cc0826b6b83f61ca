/-
  The evaluator at this seat: the functions that are given by a specification, and its soundness. (Conditions: none.)
-/
import Derived.Test.YtfddpaljmihinaaGreatDoorEvTab
import Derived.Test.YtfddpaljmihinaaGreatDoorEvSpecs2
import Derived.Test.YtfddpaljmihinaaGreatDoorEvShelf
namespace Go.Proofs.YtfddpaljmihinaaGreatDoor
namespace Ev
open Go Go.Shelf

noncomputable def specs : Nat → Option (List AVal → AMem → Out AVal)
  | 66 => some specRepeat
  | 92 => some specIndex
  | 186 => some specIndexByte
  | 190 => some specSame
  | 191 => some (specMake 5)
  | 195 => some specCount
  | _ => none

def globs (g : Nat) : Bool := Nat.ble g 7

noncomputable def seat : Tab := tab specs globs

theorem mixed : Tryz.prog.follows .mixedOrders = true := by kernel_rfl

theorem index_ok : CallOk seat Tryz.prog 92 specIndex :=
  specIndex_ok rfl (enters_of Tryz.func92 (by kernel_rfl) rfl) fun s sub m w hs hm => Any.stringslite_Index Tryz.evLays219 s sub m w hs hm
theorem repeat_ok : CallOk seat Tryz.prog 66 specRepeat :=
  specRepeat_ok (enters_of Tryz.func66 (by kernel_rfl) rfl) fun s c w hc hl => Any.strings_Repeat Tryz.evLays105 Tryz.evExtra s c w hc hl
theorem indexByte_ok : CallOk seat Tryz.prog 186 specIndexByte := specIndexByte_ok Tryz.func186 (by kernel_rfl) (by kernel_rfl) (by kernel_rfl) (by kernel_rfl)
theorem same_ok : CallOk seat Tryz.prog 190 specSame := specSame_ok Tryz.func190 (by kernel_rfl) (by kernel_rfl) (by kernel_rfl) (by kernel_rfl)
theorem count_ok : CallOk seat Tryz.prog 195 specCount := specCount_ok Tryz.func195 (by kernel_rfl) (by kernel_rfl) (by kernel_rfl) (by kernel_rfl)
theorem make_ok : CallOk seat Tryz.prog 191 (specMake 5) := specMake_ok (ps := #[3]) (t := 34) (e := 5) (by kernel_rfl) (by kernel_rfl) Tryz.func191 (by kernel_rfl) (by kernel_rfl) (by kernel_rfl) (by kernel_rfl)

theorem specs_ok : ∀ f F, seat.spec f = some F → CallOk seat Tryz.prog f F := by
  intro f F h
  have h : specs f = some F := h
  unfold specs at h
  split at h
  · cases h; exact repeat_ok
  · cases h; exact index_ok
  · cases h; exact indexByte_ok
  · cases h; exact same_ok
  · cases h; exact make_ok
  · cases h; exact count_ok
  · cases h

/-- THE EVALUATOR AT THIS SEAT. -/
theorem sound (k : Nat) (f : FuncId) : CallOk seat Tryz.prog f (evFn seat k f) := evFn_sound (tab_ok specs globs) mixed specs_ok k f
end Ev
end Go.Proofs.YtfddpaljmihinaaGreatDoor
