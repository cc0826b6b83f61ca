/-
  TlexStamps: what the row asks of the code itself is so; what is left is that the call answers true. (Conditions: that one.)
-/
import Derived.Test.YtfddpaljmihinaaGreatDoorEvBegin
import Derived.Test.YtfddpaljmihinaaGreatDoorTie
import Derived.Test.YtfddpaljmihinaaGreatDoorCards
import Derived.SevenTiedAt
import Derived.Stop.Joined
namespace Go.Proofs.YtfddpaljmihinaaGreatDoor.tlexStamps
open Go Go.ChangeShapes Go.WideShapes Go.ChangeAt Go.RowKit Go.Proofs.YtfddpaljmihinaaGreatDoor.Ev

set_option maxRecDepth 100000 in
theorem over_of (h : ∀ (os : Os) (_ : os.Started) (H : Type) (enc : TypeId × Value → H),
    ReturnsInHanded {} Tryz.checked os 5 .any (fun w args => (Rows.tlexStampsSpec.pre enc Tryz.prog Tryz.f5 Rows.tlexStampsRow.domain false w args ∧ laidMetH Tryz.prog Rows.tlexStampsRow.laid w) ∧ sizedMet enc Tryz.prog Tryz.f5 (OpenSpec.ofChange Rows.tlexStampsSpec) false w args)
      (Rows.tlexStampsSpec.post enc Tryz.prog Tryz.f5 false true false false)) : Rows.TlexStampsSaid :=
  OpenClaim.holds_of_wide 5 Tryz.f5 rfl rfl rfl rfl rfl rfl rfl ⟨rfl, rfl, rfl, rfl, rfl⟩ rfl rfl rfl rfl rfl (by kernel_rfl) Tryz.func5 (by kernel_rfl)
    (of_decide_eq_true (by kernel_rfl)) (by unfold Func.isWrapper; first | (rw [if_pos (by decide +kernel)]; kernel_rfl) | (rw [if_neg (by decide +kernel)]; exact ⟨rfl, rfl⟩))
    (fun os started H enc _ => h os started H enc)

end Go.Proofs.YtfddpaljmihinaaGreatDoor.tlexStamps
