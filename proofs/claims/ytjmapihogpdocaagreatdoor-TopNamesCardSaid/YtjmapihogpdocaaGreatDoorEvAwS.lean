/-
  The evaluator at this seat, with a table of calls with memory. (Conditions: none beyond what each theorem asks.)
-/
import Derived.Test.YtjmapihogpdocaaGreatDoorEvAw0
import Derived.Test.YtjmapihogpdocaaGreatDoorEvAw1
import Derived.Test.YtjmapihogpdocaaGreatDoorEvAw2
import Derived.Test.YtjmapihogpdocaaGreatDoorEvAw3
import Derived.Test.YtjmapihogpdocaaGreatDoorEvAw4
namespace Go.Proofs.YtjmapihogpdocaaGreatDoor
namespace Ev
open Go
noncomputable section
def evaw_F52 : List AVal → AMem → Out AVal := frameF evaw_t52 (xFn seatT 1000 52)
theorem evaw_ok52 : CallOk seatT Tryz.prog 52 evaw_F52 := frame_ok (soundXT 1000 52) fun z e he => by
  simp only [evaw_t52, List.mem_cons, List.not_mem_nil, or_false] at he
  rcases he with rfl | rfl | rfl
  · exact run_evaw_e1 z
  · exact run_evaw_e3 z
  · exact run_evaw_e4 z
def evaw_F53 : List AVal → AMem → Out AVal := frameF evaw_t53 (xFn seatT 1000 53)
theorem evaw_ok53 : CallOk seatT Tryz.prog 53 evaw_F53 := frame_ok (soundXT 1000 53) fun z e he => by
  simp only [evaw_t53, List.mem_cons, List.not_mem_nil, or_false] at he
  rcases he with rfl | rfl
  · exact run_evaw_e0 z
  · exact run_evaw_e2 z
def specsF (f : Nat) : Option (List AVal → AMem → Out AVal) :=
  match f with
  | 52 => some evaw_F52
  | 53 => some evaw_F53
  | f => specsT f
def seatF : Tab := tab specsF globs
theorem specsF_ok : ∀ f F, seatF.spec f = some F → CallOk seatF Tryz.prog f F := by
  intro f F h
  have h : specsF f = some F := h
  unfold specsF at h
  split at h
  · cases h; exact evaw_ok52
  · cases h; exact evaw_ok53
  · exact specsT_ok f F h
theorem soundXF (k : Nat) (f : FuncId) : CallOk seatF Tryz.prog f (xFn seatF k f) := xFn_sound (tab_ok specsF globs) mixed specsF_ok k f
end
end Ev
end Go.Proofs.YtjmapihogpdocaaGreatDoor
