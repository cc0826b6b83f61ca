/-
  A walk printed by the kit's printer, with functions that are given, and turned by programs of this session. (Conditions: what each theorem asks.)
-/
import Derived.Test.YtfddpaljmihinaaGreatDoorProg
import Derived.Below
import Derived.Deep.Draws
import Derived.Deep.AppendLies
import Derived.Maps.AppendAt
import Derived.OwnWalk
import Derived.Laws.BytesArg
import Derived.Laws.MakeOwn
import Derived.Laws.OwnMore
import Derived.Deep.OwnRows
import Derived.Tactics
import Derived.Lib.ConvBytes
import Derived.Laws.Slices
import Derived.WalkKit
import Derived.KernelRfl
import Derived.RowKit3
import Derived.Deep.LoopGhost
import Derived.Deep.QuietTactic
import Derived.BigQuiet
import Derived.WideLaws
import Derived.Deep.DeepCutAuto
import Derived.Deep.CutBlock
import Derived.Deep.RegionHeld3
import Derived.Laws.Rows
import Derived.Lib.AppendStr
import Derived.ArgAppend
import Derived.Laws.IdiomCopy
import Derived.OrdersHeld
import Derived.Laws.BitsLemmas
import Derived.RowKit
import Derived.Test.YtfddpaljmihinaaGreatDoorGivenS
import Derived.Test.YtfddpaljmihinaaGreatDoorWAll
-- PRINTED by print.py (a twelfth state) out of the translation. Not trusted: Lean checks it.
namespace Go.Proofs.YtfddpaljmihinaaGreatDoor.PStamps
open Go.RowKit Go.Proofs.YtfddpaljmihinaaGreatDoorW.PrintWords Go.Proofs.YtfddpaljmihinaaGreatDoorW.PrintLast Go.Proofs.YtfddpaljmihinaaGreatDoorW.PrintMore
attribute [local go_sem] max2_int min2_int max_two min_two max_three min_three max_four min_four   -- for this text's walks alone

set_option linter.unusedVariables false
set_option linter.unusedSimpArgs false

def errW : Option Int → Value
 | none => .nilIface
 | some c => .iface 0 (.int .i64 c)

theorem errW_none : errW none = .nilIface := rfl

theorem errW_some (c : Int) : errW (some c) = .iface 0 (.int .i64 c) := rfl

-- the values' own types

/-! ### Given -/
open Go.Proofs.YtfddpaljmihinaaGreatDoor.Cut
def tlex_based.f (a0 : ByteArray) : Option (Int × Int × ByteArray × List Int × List Int × Int) := none

theorem tlex_based.calls (a0 : ByteArray) (r1 : Int) (r2 : Int) (r3 : ByteArray) (r4 : List Int) (r5 : List Int) (r6 : Int) (w : World) (h : tlex_based.f a0 = some (r1, r2, r3, r4, r5, r6)) :
  Calls Tryz.prog 33 #[.string a0] w fun e w' => ∃ v3_ v4_ : Value, e = .returned (.tuple #[.agg #[.int .i64 r1, .int .i64 r2, .string r3, v3_, v4_], .int .i64 r6]) ∧ Kd.R (Kd.int .i64) 3 w' w.heap.size (fun k_ => some k_ ≠ (v4_ : Value).ownBlock) v3_ r4 ∧ Kd.R (Kd.int .i64) 3 w' w.heap.size (fun k_ => some k_ ≠ (v3_ : Value).ownBlock) v4_ r5 ∧ Below w.heap.size w w' := by cases h

def strconv_ParseInt.f (a0 : ByteArray) (a1 a2 : Int) : Option (Int × Option Int) := none

theorem strconv_ParseInt.calls (a0 : ByteArray) (a1 a2 : Int) (r1 : Int) (r2 : Option Int) (w : World) (h : strconv_ParseInt.f a0 a1 a2 = some (r1, r2)) :
  Calls Tryz.prog 35 #[.string a0, .int .i64 a1, .int .i64 a2] w fun e w' => e = .returned (.tuple #[.int .i64 r1, errW r2]) ∧ Below w.heap.size w w' := by cases h

def strings_ReplaceAll.f (a0 a1 a2 : ByteArray) : Option ByteArray := none

theorem strings_ReplaceAll.calls (a0 a1 a2 : ByteArray) (r : ByteArray) (w : World) (h : strings_ReplaceAll.f a0 a1 a2 = some r) :
  Calls Tryz.prog 95 #[.string a0, .string a1, .string a2] w fun e w' => e = .returned (.string r) ∧ Below w.heap.size w w' := by cases h

def dec_Good.f (a0 : ByteArray) : Option Bool := none

theorem dec_Good.calls (a0 : ByteArray) (r : Bool) (w : World) (h : dec_Good.f a0 = some r) :
  Calls Tryz.prog 38 #[.string a0] w fun e w' => e = .returned (.bool r) ∧ Below w.heap.size w w' := by cases h

def esc_TUnquote.f (a0 : ByteArray) (a1 : Int) : Option (ByteArray × Int × Int) := none

theorem esc_TUnquote.calls (a0 : ByteArray) (a1 : Int) (r1 : ByteArray) (r2 r3 : Int) (w : World) (h : esc_TUnquote.f a0 a1 = some (r1, r2, r3)) :
  Calls Tryz.prog 40 #[.string a0, .int .i64 a1] w fun e w' => e = .returned (.tuple #[.string r1, .int .i64 r2, .int .i64 r3]) ∧ Below w.heap.size w w' := by cases h

def tlex_cutLeft.f (a0 a1 : ByteArray) : Option ByteArray := some (cutL a0 a1)

theorem tlex_cutLeft.calls (a0 a1 : ByteArray) (r : ByteArray) (w : World) (h : tlex_cutLeft.f a0 a1 = some r) :
  Calls Tryz.prog 94 #[.string a0, .string a1] w fun e w' => e = .returned (.string r) ∧ Below w.heap.size w w' := by
 cases h
 exact cutLeft_walk a0 a1 w

def tlex_cutRight.f (a0 a1 : ByteArray) : Option ByteArray := if allAscii a0 ∧ a0.size < 140737488351232 then some (cutR a0 a1) else none

theorem tlex_cutRight.calls (a0 a1 : ByteArray) (r : ByteArray) (w : World) (h : tlex_cutRight.f a0 a1 = some r) :
  Calls Tryz.prog 93 #[.string a0, .string a1] w fun e w' => e = .returned (.string r) ∧ Below w.heap.size w w' := by
 unfold tlex_cutRight.f at h
 split at h
 ·rename_i hc
  cases h
  exact cutRight_walk a0 a1 w hc.2 (allAscii_spec hc.1)
 ·cases h

def tlex_number.f (a0 : ByteArray) : Option Int := digitsVal a0

theorem tlex_number.calls (a0 : ByteArray) (r : Int) (w : World) (h : tlex_number.f a0 = some r) :
  Calls Tryz.prog 71 #[.string a0] w fun e w' => e = .returned (.int .i64 r) ∧ Below w.heap.size w w' := number_calls a0 r w h

def strings_Contains.f (a0 a1 : ByteArray) : Option Bool := containsTab a0 a1

theorem strings_Contains.calls (a0 a1 : ByteArray) (r : Bool) (w : World) (h : strings_Contains.f a0 a1 = some r) :
  Calls Tryz.prog 32 #[.string a0, .string a1] w fun e w' => e = .returned (.bool r) ∧ Below w.heap.size w w' := contains_calls a0 a1 r w h

def strings_TrimLeft.f (a0 a1 : ByteArray) : Option ByteArray := trimLeftTab a0 a1

theorem strings_TrimLeft.calls (a0 a1 : ByteArray) (r : ByteArray) (w : World) (h : strings_TrimLeft.f a0 a1 = some r) :
  Calls Tryz.prog 73 #[.string a0, .string a1] w fun e w' => e = .returned (.string r) ∧ Below w.heap.size w w' := trimLeft_calls a0 a1 r w h

def strings_IndexByte.f (a0 : ByteArray) (a1 : Int) : Option Int := indexByteTab a0 a1

theorem strings_IndexByte.calls (a0 : ByteArray) (a1 : Int) (r : Int) (w : World) (h : strings_IndexByte.f a0 a1 = some r) :
  Calls Tryz.prog 120 #[.string a0, .int .u8 a1] w fun e w' => e = .returned (.int .i64 r) ∧ Below w.heap.size w w' := indexByte_calls a0 a1 r w h

def strings_IndexAny.f (a0 a1 : ByteArray) : Option Int := indexAnyTab a0 a1

theorem strings_IndexAny.calls (a0 a1 : ByteArray) (r : Int) (w : World) (h : strings_IndexAny.f a0 a1 = some r) :
  Calls Tryz.prog 60 #[.string a0, .string a1] w fun e w' => e = .returned (.int .i64 r) ∧ Below w.heap.size w w' := indexAny_calls a0 a1 r w h

def strings_Cut.f (a0 a1 : ByteArray) : Option (ByteArray × ByteArray × Bool) := cutTab a0 a1

theorem strings_Cut.calls (a0 a1 : ByteArray) (r1 r2 : ByteArray) (r3 : Bool) (w : World) (h : strings_Cut.f a0 a1 = some (r1, r2, r3)) :
  Calls Tryz.prog 61 #[.string a0, .string a1] w fun e w' => e = .returned (.tuple #[.string r1, .string r2, .bool r3]) ∧ Below w.heap.size w w' := cut_calls a0 a1 r1 r2 r3 w h

def dragomanlaw10_awake.f : Option Bool := some true

theorem dragomanlaw10_awake.calls (r : Bool) (w : World) [GoodW w] (h : dragomanlaw10_awake.f = some r) :
  Calls Tryz.prog 14 #[] w fun e w' => e = .returned (.bool r) ∧ Below w.heap.size w w' := by
 cases h
 exact awake_calls w

theorem sz45 : (⟨#[45]⟩ : ByteArray).size = 1 := rfl

theorem sz58 : (⟨#[58]⟩ : ByteArray).size = 1 := rfl

theorem sz84 : (⟨#[84]⟩ : ByteArray).size = 1 := rfl

theorem sz90 : (⟨#[90]⟩ : ByteArray).size = 1 := rfl

theorem sz32 : (⟨#[32]⟩ : ByteArray).size = 1 := rfl

theorem sz43 : (⟨#[43]⟩ : ByteArray).size = 1 := rfl

theorem sz46_53 : (⟨#[46, 53]⟩ : ByteArray).size = 2 := rfl

theorem sz58_51_48 : (⟨#[58, 51, 48]⟩ : ByteArray).size = 3 := rfl

theorem sz32_35_32_120 : (⟨#[32, 35, 32, 120]⟩ : ByteArray).size = 4 := rfl

end Go.Proofs.YtfddpaljmihinaaGreatDoor.PStamps
