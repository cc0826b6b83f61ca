/-
  The evaluator at this seat, with a table of calls with memory. (Conditions: none beyond what each theorem asks.)
-/
import Derived.Test.YtjmapihogpdocaaGreatDoorEvSk0
import Derived.Test.YtjmapihogpdocaaGreatDoorEvSk1
import Derived.Test.YtjmapihogpdocaaGreatDoorEvSk2
import Derived.Test.YtjmapihogpdocaaGreatDoorEvSk3
namespace Go.Proofs.YtjmapihogpdocaaGreatDoor
namespace Ev
open Go
noncomputable section
def evsk_F14 : List AVal → AMem → Out AVal := frameF evsk_t14 (xFn seatF 1000 14)
theorem evsk_ok14 : CallOk seatF Tryz.prog 14 evsk_F14 := frame_ok (soundXF 1000 14) fun z e he => by
  simp only [evsk_t14, List.mem_cons, List.not_mem_nil, or_false] at he
  rcases he with rfl | rfl | rfl | rfl
  · exact run_evsk_e0 z
  · exact run_evsk_e1 z
  · exact run_evsk_e2 z
  · exact run_evsk_e3 z
def specsG (f : Nat) : Option (List AVal → AMem → Out AVal) :=
  match f with
  | 14 => some evsk_F14
  | f => specsF f
def seatG : Tab := tab specsG globs
theorem specsG_ok : ∀ f F, seatG.spec f = some F → CallOk seatG Tryz.prog f F := by
  intro f F h
  have h : specsG f = some F := h
  unfold specsG at h
  split at h
  · cases h; exact evsk_ok14
  · exact specsF_ok f F h
theorem soundXG (k : Nat) (f : FuncId) : CallOk seatG Tryz.prog f (xFn seatG k f) := xFn_sound (tab_ok specsG globs) mixed specsG_ok k f
end
end Ev
end Go.Proofs.YtjmapihogpdocaaGreatDoor
