/-
  The evaluator at this seat, with tread's 'whole' (a deferred literal that recovers) and the sorted keys of a map: sound. (Conditions: none.)
-/
import Derived.Test.YtfddpaljmihinaaGreatDoorEvSeat
import Derived.Test.YtfddpaljmihinaaGreatDoorEvDefer
import Derived.Test.YtfddpaljmihinaaGreatDoorEvSorted
import Derived.Test.YtfddpaljmihinaaGreatDoorEvIter
namespace Go.Proofs.YtfddpaljmihinaaGreatDoor
namespace Ev
open Go Go.Shelf

noncomputable def specsS (f : Nat) : Option (List AVal → AMem → Out AVal) :=
  match f with
  | 141 => some (specSorted 183 9)
  | f => specs f
noncomputable def seatS : Tab := tab specsS globs

theorem sorted_ok : CallOk seatS Tryz.prog 141 (specSorted 183 9) :=
  specSorted_ok (enters_of Tryz.func141 (by kernel_rfl) rfl) Tryz.underlying9 fun b nn Bm D0 w h1 h2 h3 h4 h5 => Tryz.evSorted b nn Bm D0 w h1 h2 h3 h4 h5

theorem specsS_ok : ∀ f F, seatS.spec f = some F → CallOk seatS Tryz.prog f F := by
  intro f F h
  have h : specsS f = some F := h
  unfold specsS at h
  split at h
  · cases h; exact sorted_ok
  · exact specs_ok f F h
theorem soundS (k : Nat) (f : FuncId) : CallOk seatS Tryz.prog f (evFn seatS k f) := evFn_sound (tab_ok specsS globs) mixed specsS_ok k f

/-- tread.whole. -/
noncomputable def wholeF : List AVal → AMem → Out AVal := evDef seatS (evFn seatS 100) 3000 Tryz.f51
theorem whole_ok : CallOk seatS Tryz.prog 51 wholeF :=
  evDef_ok (tab_ok specsS globs) (soundS 100) (fun _ n => region_ok (tab_ok specsS globs) mixed (soundS 100) n) rfl

noncomputable def specsT (f : Nat) : Option (List AVal → AMem → Out AVal) :=
  match f with
  | 51 => some wholeF
  | f => specsS f
noncomputable def seatT : Tab := tab specsT globs
theorem specsT_ok : ∀ f F, seatT.spec f = some F → CallOk seatT Tryz.prog f F := by
  intro f F h
  have h : specsT f = some F := h
  unfold specsT at h
  split at h
  · cases h; exact whole_ok
  · exact specsS_ok f F h
/-- THE EVALUATOR AT THIS SEAT, tread's reader included. -/
theorem soundT (k : Nat) (f : FuncId) : CallOk seatT Tryz.prog f (evFn seatT k f) := evFn_sound (tab_ok specsT globs) mixed specsT_ok k f
end Ev
end Go.Proofs.YtfddpaljmihinaaGreatDoor
