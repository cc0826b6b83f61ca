/-
  A closed fact of the row topNames. (Conditions: none.)
-/
import Derived.Test.YtjmapihogpdocaaGreatDoorRows
import Derived.JoinedOf
import Derived.KernelRfl
import Derived.SevenTiedAt
namespace Go.Proofs.YtjmapihogpdocaaGreatDoor.topNames
open Go
theorem goes_none {P : Program} (h : P.funcs.any Func.goes = false) (f : FuncId) : P.goes f = false := by
  unfold Program.goes
  rw [h, Bool.and_false, Bool.or_false, ← Bool.not_eq_true]
  intro h2
  have h3 : ∃ g : Nat, (P.funcs[g]?).any Func.goes = true := by
    simp only [List.any_eq_true] at h2
    obtain ⟨g, h4⟩ := h2
    exact ⟨_, h4.2⟩
  obtain ⟨g, h3⟩ := h3
  cases h5 : P.funcs[g]? with
  | none => rw [h5] at h3; cases h3
  | some fn =>
    rw [h5] at h3
    have h6 : fn.goes = true := h3
    obtain ⟨h7, h8⟩ := Array.getElem?_eq_some_iff.mp h5
    have : P.funcs.any Func.goes = true := Array.any_eq_true.mpr ⟨g, h7, by rw [h8]; exact h6⟩
    rw [h] at this; cases this

theorem goesBy_none {P : Program} {c : OpenClaim} (hs : c.start = .entering) (h : P.funcs.any Func.goes = false) : false = c.goesBy P := by
  unfold OpenClaim.goesBy Program.goesAt Program.goesFrom
  rw [hs]
  cases P.funcNamed c.func with
  | none => rfl
  | some f => simp only [Option.any_some, goes_none h f, Bool.or_false]

theorem noGo : Tryz.prog.funcs.any Func.goes = false := by kernel_rfl

theorem m4 : false = Rows.topNamesRow.goesBy Tryz.pinned.checked.prog := goesBy_none rfl noGo
end Go.Proofs.YtjmapihogpdocaaGreatDoor.topNames
