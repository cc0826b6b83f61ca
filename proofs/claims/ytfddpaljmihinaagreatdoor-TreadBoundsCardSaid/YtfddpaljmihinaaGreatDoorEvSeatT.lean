/-
  The evaluator at this seat, with tread's 'whole' (a deferred literal that recovers): sound. (Conditions: none.)
-/
import Derived.Test.YtfddpaljmihinaaGreatDoorEvWords
import Derived.Test.YtfddpaljmihinaaGreatDoorEvDefer
namespace Go.Proofs.YtfddpaljmihinaaGreatDoor
namespace Ev
open Go
noncomputable section

/-- tread.whole. -/
def wholeF : List AVal → AMem → Out AVal := evDef seatP (xFn seatP 1000) 3000 Tryz.f51
theorem whole_ok : CallOk seatP Tryz.prog 51 wholeF :=
  evDef_ok (tab_ok specsP globs) (soundXP 1000) (fun _ n => region_ok (tab_ok specsP globs) mixed (soundXP 1000) n) rfl

def specsT (f : Nat) : Option (List AVal → AMem → Out AVal) :=
  match f with
  | 51 => some wholeF
  | f => specsP f
def seatT : Tab := tab specsT globs
theorem specsT_ok : ∀ f F, seatT.spec f = some F → CallOk seatT Tryz.prog f F := by
  intro f F h
  have h : specsT f = some F := h
  unfold specsT at h
  split at h
  · cases h; exact whole_ok
  · exact specsP_ok f F h
/-- THE EVALUATOR AT THIS SEAT, tread's reader included. -/
theorem soundT (k : Nat) (f : FuncId) : CallOk seatT Tryz.prog f (evFn seatT k f) := evFn_sound (tab_ok specsT globs) mixed specsT_ok k f
theorem soundXT (k : Nat) (f : FuncId) : CallOk seatT Tryz.prog f (xFn seatT k f) := by rw [xFn_eq]; exact soundT k f
end
end Ev
end Go.Proofs.YtfddpaljmihinaaGreatDoor
