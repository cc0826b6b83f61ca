/-
  A walk printed by the kit's printer, with functions that are given, and turned by programs of this session. (Conditions: what each theorem asks.)
-/
import Derived.Test.YtfddpaljmihinaaGreatDoorPStampsx0
import Derived.Test.YtfddpaljmihinaaGreatDoorPStampsx7
import Derived.Test.YtfddpaljmihinaaGreatDoorPStampsx8
-- PRINTED by print.py (a twelfth state) out of the translation, and cut by a program of this session's. Not trusted: Lean checks it.
namespace Go.Proofs.YtfddpaljmihinaaGreatDoor.PStamps
open Go.RowKit Go.Proofs.YtfddpaljmihinaaGreatDoorW.PrintWords Go.Proofs.YtfddpaljmihinaaGreatDoorW.PrintLast Go.Proofs.YtfddpaljmihinaaGreatDoorW.PrintMore
attribute [local go_sem] max2_int min2_int max_two min_two max_three min_three max_four min_four   -- for this text's walks alone

set_option linter.unusedVariables false
set_option linter.unusedSimpArgs false

/-! ### dragomanlaw10_TlexStamps: function 5 -/
mutual
def dragomanlaw10_TlexStamps.j0 : Nat → Int → Int → Int → Int → Int → Int → Int → Bool → Option (Bool)
 | 0, _, _, _, _, _, _, _, _ => none
 | k + 1, x0, x1, x2, x3, x4, x5, x6, x79 => if x79 = true then (some true) else ((dragomanlaw10_two.f (wrap64 (Int.tdiv x0 100))).bind fun t203 => ((dragomanlaw10_two.f x0).bind fun t204 => (if t203.size + t204.size ≤ 9223372036854775807 then (if (t203 ++ t204).size + 1 ≤ 9223372036854775807 then ((dragomanlaw10_two.f x1).bind fun t205 => (if ((t203 ++ t204) ++ (⟨#[45]⟩ : ByteArray)).size + t205.size ≤ 9223372036854775807 then (if (((t203 ++ t204) ++ (⟨#[45]⟩ : ByteArray)) ++ t205).size + 1 ≤ 9223372036854775807 then ((dragomanlaw10_two.f x2).bind fun t206 => (if ((((t203 ++ t204) ++ (⟨#[45]⟩ : ByteArray)) ++ t205) ++ (⟨#[45]⟩ : ByteArray)).size + t206.size ≤ 9223372036854775807 then ((dragomanlaw10_two.f x3).bind fun t207 => (if t207.size + 1 ≤ 9223372036854775807 then ((dragomanlaw10_two.f x4).bind fun t208 => (if (t207 ++ (⟨#[58]⟩ : ByteArray)).size + t208.size ≤ 9223372036854775807 then (if ((t207 ++ (⟨#[58]⟩ : ByteArray)) ++ t208).size + 1 ≤ 9223372036854775807 then ((dragomanlaw10_two.f x5).bind fun t209 => (if (((t207 ++ (⟨#[58]⟩ : ByteArray)) ++ t208) ++ (⟨#[58]⟩ : ByteArray)).size + t209.size ≤ 9223372036854775807 then ((some (([0, 31, 28, 31, 30, 31, 30, 31, 31, 30, 31, 30, 31, 0] : List Int) : List Int)).bind fun y210 => (if 0 ≤ x1 then (if x1 < (y210.length : Int) then (if x1 = 2 then (if (Int.tmod x0 4) = 0 then (if (Int.tmod x0 100) = 0 then (dragomanlaw10_TlexStamps.j1 k x2 x3 x4 x5 x6 (((((t203 ++ t204) ++ (⟨#[45]⟩ : ByteArray)) ++ t205) ++ (⟨#[45]⟩ : ByteArray)) ++ t206) ((((t207 ++ (⟨#[58]⟩ : ByteArray)) ++ t208) ++ (⟨#[58]⟩ : ByteArray)) ++ t209) (rd y210 x1) ((Int.tmod x0 400) == 0)) else (dragomanlaw10_TlexStamps.j1 k x2 x3 x4 x5 x6 (((((t203 ++ t204) ++ (⟨#[45]⟩ : ByteArray)) ++ t205) ++ (⟨#[45]⟩ : ByteArray)) ++ t206) ((((t207 ++ (⟨#[58]⟩ : ByteArray)) ++ t208) ++ (⟨#[58]⟩ : ByteArray)) ++ t209) (rd y210 x1) true)) else (dragomanlaw10_TlexStamps.j1 k x2 x3 x4 x5 x6 (((((t203 ++ t204) ++ (⟨#[45]⟩ : ByteArray)) ++ t205) ++ (⟨#[45]⟩ : ByteArray)) ++ t206) ((((t207 ++ (⟨#[58]⟩ : ByteArray)) ++ t208) ++ (⟨#[58]⟩ : ByteArray)) ++ t209) (rd y210 x1) ((Int.tmod x0 400) == 0))) else (dragomanlaw10_TlexStamps.j1 k x2 x3 x4 x5 x6 (((((t203 ++ t204) ++ (⟨#[45]⟩ : ByteArray)) ++ t205) ++ (⟨#[45]⟩ : ByteArray)) ++ t206) ((((t207 ++ (⟨#[58]⟩ : ByteArray)) ++ t208) ++ (⟨#[58]⟩ : ByteArray)) ++ t209) (rd y210 x1) false)) else (none)) else (none))) else (none))) else (none)) else (none))) else (none))) else (none))) else (none)) else (none))) else (none)) else (none))))
def dragomanlaw10_TlexStamps.j1 : Nat → Int → Int → Int → Int → Int → ByteArray → ByteArray → Int → Bool → Option (Bool)
 | 0, _, _, _, _, _, _, _, _, _ => none
 | k + 1, x2, x3, x4, x5, x6, x15, x16, x17, x124 => if x124 = true then (dragomanlaw10_TlexStamps.j2 k x2 x3 x4 x5 x6 x15 x16 29) else (dragomanlaw10_TlexStamps.j2 k x2 x3 x4 x5 x6 x15 x16 x17)
def dragomanlaw10_TlexStamps.j2 : Nat → Int → Int → Int → Int → Int → ByteArray → ByteArray → Int → Option (Bool)
 | 0, _, _, _, _, _, _, _, _ => none
 | k + 1, x2, x3, x4, x5, x6, x15, x16, x17 => if x2 ≥ 1 then (dragomanlaw10_TlexStamps.j3 k x3 x4 x5 x6 x15 x16 (decide (x2 ≤ x17))) else (dragomanlaw10_TlexStamps.j3 k x3 x4 x5 x6 x15 x16 false)
def dragomanlaw10_TlexStamps.j3 : Nat → Int → Int → Int → Int → ByteArray → ByteArray → Bool → Option (Bool)
 | 0, _, _, _, _, _, _, _ => none
 | k + 1, x3, x4, x5, x6, x15, x16, x18 => if x3 < 24 then (if x4 < 60 then (dragomanlaw10_TlexStamps.j4 k x6 x15 x16 x18 (decide (x5 < 61))) else (dragomanlaw10_TlexStamps.j4 k x6 x15 x16 x18 false)) else (dragomanlaw10_TlexStamps.j4 k x6 x15 x16 x18 false)
def dragomanlaw10_TlexStamps.j4 : Nat → Int → ByteArray → ByteArray → Bool → Bool → Option (Bool)
 | 0, _, _, _, _, _ => none
 | k + 1, x6, x15, x16, x18, x19 => (tlex_Stamp.f k x15).bind fun t214 => (if (t214 != x18) = true then (dragomanlaw10_TlexStamps.j5 k x15 x16 x18 x19 true) else ((tlex_Stamp.f k x16).bind fun t215 => (if (t215 != x19) = true then (dragomanlaw10_TlexStamps.j5 k x15 x16 x18 x19 true) else (if x15.size + 1 ≤ 9223372036854775807 then (if (x15 ++ (⟨#[84]⟩ : ByteArray)).size + x16.size ≤ 9223372036854775807 then (if ((x15 ++ (⟨#[84]⟩ : ByteArray)) ++ x16).size + 1 ≤ 9223372036854775807 then ((tlex_Stamp.f k (((x15 ++ (⟨#[84]⟩ : ByteArray)) ++ x16) ++ (⟨#[90]⟩ : ByteArray))).bind fun t216 => (if x18 = true then (if (t216 != x19) = true then (dragomanlaw10_TlexStamps.j5 k x15 x16 x18 x19 true) else (if x16.size + 2 ≤ 9223372036854775807 then ((tlex_Stamp.f k (x16 ++ (⟨#[46, 53]⟩ : ByteArray))).bind fun t217 => (if (t217 != x19) = true then (dragomanlaw10_TlexStamps.j5 k x15 x16 x18 x19 true) else (if (x15 ++ (⟨#[32]⟩ : ByteArray)).size + x16.size ≤ 9223372036854775807 then (if ((x15 ++ (⟨#[32]⟩ : ByteArray)) ++ x16).size + 1 ≤ 9223372036854775807 then ((dragomanlaw10_two.f x6).bind fun t218 => (if (((x15 ++ (⟨#[32]⟩ : ByteArray)) ++ x16) ++ (⟨#[43]⟩ : ByteArray)).size + t218.size ≤ 9223372036854775807 then (if ((((x15 ++ (⟨#[32]⟩ : ByteArray)) ++ x16) ++ (⟨#[43]⟩ : ByteArray)) ++ t218).size + 3 ≤ 9223372036854775807 then ((tlex_Stamp.f k (((((x15 ++ (⟨#[32]⟩ : ByteArray)) ++ x16) ++ (⟨#[43]⟩ : ByteArray)) ++ t218) ++ (⟨#[58, 51, 48]⟩ : ByteArray))).bind fun t219 => (if x19 = true then (dragomanlaw10_TlexStamps.j5 k x15 x16 x18 x19 (t219 != (decide (x6 < 24)))) else (dragomanlaw10_TlexStamps.j5 k x15 x16 x18 x19 (t219 != false)))) else (none)) else (none))) else (none)) else (none)))) else (none))) else (if (t216 != false) = true then (dragomanlaw10_TlexStamps.j5 k x15 x16 x18 x19 true) else (if x16.size + 2 ≤ 9223372036854775807 then ((tlex_Stamp.f k (x16 ++ (⟨#[46, 53]⟩ : ByteArray))).bind fun t220 => (if (t220 != x19) = true then (dragomanlaw10_TlexStamps.j5 k x15 x16 x18 x19 true) else (if (x15 ++ (⟨#[32]⟩ : ByteArray)).size + x16.size ≤ 9223372036854775807 then (if ((x15 ++ (⟨#[32]⟩ : ByteArray)) ++ x16).size + 1 ≤ 9223372036854775807 then ((dragomanlaw10_two.f x6).bind fun t221 => (if (((x15 ++ (⟨#[32]⟩ : ByteArray)) ++ x16) ++ (⟨#[43]⟩ : ByteArray)).size + t221.size ≤ 9223372036854775807 then (if ((((x15 ++ (⟨#[32]⟩ : ByteArray)) ++ x16) ++ (⟨#[43]⟩ : ByteArray)) ++ t221).size + 3 ≤ 9223372036854775807 then ((tlex_Stamp.f k (((((x15 ++ (⟨#[32]⟩ : ByteArray)) ++ x16) ++ (⟨#[43]⟩ : ByteArray)) ++ t221) ++ (⟨#[58, 51, 48]⟩ : ByteArray))).bind fun t222 => (dragomanlaw10_TlexStamps.j5 k x15 x16 x18 x19 (t222 != false))) else (none)) else (none))) else (none)) else (none)))) else (none))))) else (none)) else (none)) else (none)))))
def dragomanlaw10_TlexStamps.j5 : Nat → ByteArray → ByteArray → Bool → Bool → Bool → Option (Bool)
 | 0, _, _, _, _, _ => none
 | k + 1, x15, x16, x18, x19, x192 => if x192 = true then (some false) else (if x15.size + 1 ≤ 9223372036854775807 then (if (x15 ++ (⟨#[32]⟩ : ByteArray)).size + x16.size ≤ 9223372036854775807 then (if ((x15 ++ (⟨#[32]⟩ : ByteArray)) ++ x16).size + 4 ≤ 9223372036854775807 then ((tlex_Plain.f k (((x15 ++ (⟨#[32]⟩ : ByteArray)) ++ x16) ++ (⟨#[32, 35, 32, 120]⟩ : ByteArray)) 0).bind fun bt223 => (if x18 = true then (if x19 = true then (if bt223.2.2.2.2.2.2.1 = 0 then (if bt223.2.2.2.2.2.1 = 19 then (if bt223.1 = 7 then (some (bt223.2.2.1.toList == ((x15 ++ (⟨#[32]⟩ : ByteArray)) ++ x16).toList)) else (some false)) else (some false)) else (some false)) else (some true)) else (some true))) else (none)) else (none)) else (none))
end

def dragomanlaw10_TlexStamps.f (k : Nat) (a0 : Int) (a1 : Int) (a2 : Int) (a3 : Int) (a4 : Int) (a5 : Int) (a6 : Int) : Option (Bool) := (dragomanlaw10_awake.f).bind fun t202 => (if t202 = true then (if a0 < 0 then (dragomanlaw10_TlexStamps.j0 k a0 a1 a2 a3 a4 a5 a6 true) else (if a0 > 9999 then (dragomanlaw10_TlexStamps.j0 k a0 a1 a2 a3 a4 a5 a6 true) else (if a1 < 0 then (dragomanlaw10_TlexStamps.j0 k a0 a1 a2 a3 a4 a5 a6 true) else (if a1 > 13 then (dragomanlaw10_TlexStamps.j0 k a0 a1 a2 a3 a4 a5 a6 true) else (if a2 < 0 then (dragomanlaw10_TlexStamps.j0 k a0 a1 a2 a3 a4 a5 a6 true) else (if a2 > 32 then (dragomanlaw10_TlexStamps.j0 k a0 a1 a2 a3 a4 a5 a6 true) else (if a3 < 0 then (dragomanlaw10_TlexStamps.j0 k a0 a1 a2 a3 a4 a5 a6 true) else (if a3 > 25 then (dragomanlaw10_TlexStamps.j0 k a0 a1 a2 a3 a4 a5 a6 true) else (if a4 < 0 then (dragomanlaw10_TlexStamps.j0 k a0 a1 a2 a3 a4 a5 a6 true) else (if a4 > 61 then (dragomanlaw10_TlexStamps.j0 k a0 a1 a2 a3 a4 a5 a6 true) else (if a5 < 0 then (dragomanlaw10_TlexStamps.j0 k a0 a1 a2 a3 a4 a5 a6 true) else (if a5 > 62 then (dragomanlaw10_TlexStamps.j0 k a0 a1 a2 a3 a4 a5 a6 true) else (if a6 < 0 then (dragomanlaw10_TlexStamps.j0 k a0 a1 a2 a3 a4 a5 a6 true) else (dragomanlaw10_TlexStamps.j0 k a0 a1 a2 a3 a4 a5 a6 (decide (a6 > 25)))))))))))))))) else (some false))

theorem dragomanlaw10_TlexStamps.mono_l : ∀ k, (∀ y0 y1 y2 y3 y4 y5 y6 y7, LeO (dragomanlaw10_TlexStamps.j0 k y0 y1 y2 y3 y4 y5 y6 y7) (dragomanlaw10_TlexStamps.j0 (k + 1) y0 y1 y2 y3 y4 y5 y6 y7)) ∧ (∀ y0 y1 y2 y3 y4 y5 y6 y7 y8, LeO (dragomanlaw10_TlexStamps.j1 k y0 y1 y2 y3 y4 y5 y6 y7 y8) (dragomanlaw10_TlexStamps.j1 (k + 1) y0 y1 y2 y3 y4 y5 y6 y7 y8)) ∧ (∀ y0 y1 y2 y3 y4 y5 y6 y7, LeO (dragomanlaw10_TlexStamps.j2 k y0 y1 y2 y3 y4 y5 y6 y7) (dragomanlaw10_TlexStamps.j2 (k + 1) y0 y1 y2 y3 y4 y5 y6 y7)) ∧ (∀ y0 y1 y2 y3 y4 y5 y6, LeO (dragomanlaw10_TlexStamps.j3 k y0 y1 y2 y3 y4 y5 y6) (dragomanlaw10_TlexStamps.j3 (k + 1) y0 y1 y2 y3 y4 y5 y6)) ∧ (∀ y0 y1 y2 y3 y4, LeO (dragomanlaw10_TlexStamps.j4 k y0 y1 y2 y3 y4) (dragomanlaw10_TlexStamps.j4 (k + 1) y0 y1 y2 y3 y4)) ∧ (∀ y0 y1 y2 y3 y4, LeO (dragomanlaw10_TlexStamps.j5 k y0 y1 y2 y3 y4) (dragomanlaw10_TlexStamps.j5 (k + 1) y0 y1 y2 y3 y4))
 | 0 => ⟨fun _ _ _ _ _ _ _ _ r h => by simp [dragomanlaw10_TlexStamps.j0] at h, fun _ _ _ _ _ _ _ _ _ r h => by simp [dragomanlaw10_TlexStamps.j1] at h, fun _ _ _ _ _ _ _ _ r h => by simp [dragomanlaw10_TlexStamps.j2] at h, fun _ _ _ _ _ _ _ r h => by simp [dragomanlaw10_TlexStamps.j3] at h, fun _ _ _ _ _ r h => by simp [dragomanlaw10_TlexStamps.j4] at h, fun _ _ _ _ _ r h => by simp [dragomanlaw10_TlexStamps.j5] at h⟩
 | k + 1 => by
  obtain ⟨ih0, ih1, ih2, ih3, ih4, ih5⟩ := dragomanlaw10_TlexStamps.mono_l k
  refine ⟨?_, ?_, ?_, ?_, ?_, ?_⟩
  ·intro y0 y1 y2 y3 y4 y5 y6 y7
   unfold dragomanlaw10_TlexStamps.j0
   repeat' first
   | (with_reducible exact ih0 _ _ _ _ _ _ _ _)
   | (with_reducible exact ih1 _ _ _ _ _ _ _ _ _)
   | (with_reducible exact ih2 _ _ _ _ _ _ _ _)
   | (with_reducible exact ih3 _ _ _ _ _ _ _)
   | (with_reducible exact ih4 _ _ _ _ _)
   | (with_reducible exact ih5 _ _ _ _ _)
   | (with_reducible exact tlex_Plain.mono _ _ _)
   | (with_reducible exact tlex_Stamp.mono _ _)
   | (with_reducible exact LeO.refl _)
   | (with_reducible exact LeO.none _)
   | (with_reducible refine LeO.ite ?_ ?_)
   | (with_reducible refine LeO.bind ?_ (fun _ => ?_))
   | exact ih0 _ _ _ _ _ _ _ _
   | exact ih1 _ _ _ _ _ _ _ _ _
   | exact ih2 _ _ _ _ _ _ _ _
   | exact ih3 _ _ _ _ _ _ _
   | exact ih4 _ _ _ _ _
   | exact ih5 _ _ _ _ _
   | exact tlex_Plain.mono _ _ _
   | exact tlex_Stamp.mono _ _
   | exact LeO.none _
   | refine LeO.ite ?_ ?_
   | refine LeO.bind ?_ (fun _ => ?_)
  ·intro y0 y1 y2 y3 y4 y5 y6 y7 y8
   unfold dragomanlaw10_TlexStamps.j1
   repeat' first
   | (with_reducible exact ih0 _ _ _ _ _ _ _ _)
   | (with_reducible exact ih1 _ _ _ _ _ _ _ _ _)
   | (with_reducible exact ih2 _ _ _ _ _ _ _ _)
   | (with_reducible exact ih3 _ _ _ _ _ _ _)
   | (with_reducible exact ih4 _ _ _ _ _)
   | (with_reducible exact ih5 _ _ _ _ _)
   | (with_reducible exact tlex_Plain.mono _ _ _)
   | (with_reducible exact tlex_Stamp.mono _ _)
   | (with_reducible exact LeO.refl _)
   | (with_reducible exact LeO.none _)
   | (with_reducible refine LeO.ite ?_ ?_)
   | (with_reducible refine LeO.bind ?_ (fun _ => ?_))
   | exact ih0 _ _ _ _ _ _ _ _
   | exact ih1 _ _ _ _ _ _ _ _ _
   | exact ih2 _ _ _ _ _ _ _ _
   | exact ih3 _ _ _ _ _ _ _
   | exact ih4 _ _ _ _ _
   | exact ih5 _ _ _ _ _
   | exact tlex_Plain.mono _ _ _
   | exact tlex_Stamp.mono _ _
   | exact LeO.none _
   | refine LeO.ite ?_ ?_
   | refine LeO.bind ?_ (fun _ => ?_)
  ·intro y0 y1 y2 y3 y4 y5 y6 y7
   unfold dragomanlaw10_TlexStamps.j2
   repeat' first
   | (with_reducible exact ih0 _ _ _ _ _ _ _ _)
   | (with_reducible exact ih1 _ _ _ _ _ _ _ _ _)
   | (with_reducible exact ih2 _ _ _ _ _ _ _ _)
   | (with_reducible exact ih3 _ _ _ _ _ _ _)
   | (with_reducible exact ih4 _ _ _ _ _)
   | (with_reducible exact ih5 _ _ _ _ _)
   | (with_reducible exact tlex_Plain.mono _ _ _)
   | (with_reducible exact tlex_Stamp.mono _ _)
   | (with_reducible exact LeO.refl _)
   | (with_reducible exact LeO.none _)
   | (with_reducible refine LeO.ite ?_ ?_)
   | (with_reducible refine LeO.bind ?_ (fun _ => ?_))
   | exact ih0 _ _ _ _ _ _ _ _
   | exact ih1 _ _ _ _ _ _ _ _ _
   | exact ih2 _ _ _ _ _ _ _ _
   | exact ih3 _ _ _ _ _ _ _
   | exact ih4 _ _ _ _ _
   | exact ih5 _ _ _ _ _
   | exact tlex_Plain.mono _ _ _
   | exact tlex_Stamp.mono _ _
   | exact LeO.none _
   | refine LeO.ite ?_ ?_
   | refine LeO.bind ?_ (fun _ => ?_)
  ·intro y0 y1 y2 y3 y4 y5 y6
   unfold dragomanlaw10_TlexStamps.j3
   repeat' first
   | (with_reducible exact ih0 _ _ _ _ _ _ _ _)
   | (with_reducible exact ih1 _ _ _ _ _ _ _ _ _)
   | (with_reducible exact ih2 _ _ _ _ _ _ _ _)
   | (with_reducible exact ih3 _ _ _ _ _ _ _)
   | (with_reducible exact ih4 _ _ _ _ _)
   | (with_reducible exact ih5 _ _ _ _ _)
   | (with_reducible exact tlex_Plain.mono _ _ _)
   | (with_reducible exact tlex_Stamp.mono _ _)
   | (with_reducible exact LeO.refl _)
   | (with_reducible exact LeO.none _)
   | (with_reducible refine LeO.ite ?_ ?_)
   | (with_reducible refine LeO.bind ?_ (fun _ => ?_))
   | exact ih0 _ _ _ _ _ _ _ _
   | exact ih1 _ _ _ _ _ _ _ _ _
   | exact ih2 _ _ _ _ _ _ _ _
   | exact ih3 _ _ _ _ _ _ _
   | exact ih4 _ _ _ _ _
   | exact ih5 _ _ _ _ _
   | exact tlex_Plain.mono _ _ _
   | exact tlex_Stamp.mono _ _
   | exact LeO.none _
   | refine LeO.ite ?_ ?_
   | refine LeO.bind ?_ (fun _ => ?_)
  ·intro y0 y1 y2 y3 y4
   unfold dragomanlaw10_TlexStamps.j4
   repeat' first
   | (with_reducible exact ih0 _ _ _ _ _ _ _ _)
   | (with_reducible exact ih1 _ _ _ _ _ _ _ _ _)
   | (with_reducible exact ih2 _ _ _ _ _ _ _ _)
   | (with_reducible exact ih3 _ _ _ _ _ _ _)
   | (with_reducible exact ih4 _ _ _ _ _)
   | (with_reducible exact ih5 _ _ _ _ _)
   | (with_reducible exact tlex_Plain.mono _ _ _)
   | (with_reducible exact tlex_Stamp.mono _ _)
   | (with_reducible exact LeO.refl _)
   | (with_reducible exact LeO.none _)
   | (with_reducible refine LeO.ite ?_ ?_)
   | (with_reducible refine LeO.bind ?_ (fun _ => ?_))
   | exact ih0 _ _ _ _ _ _ _ _
   | exact ih1 _ _ _ _ _ _ _ _ _
   | exact ih2 _ _ _ _ _ _ _ _
   | exact ih3 _ _ _ _ _ _ _
   | exact ih4 _ _ _ _ _
   | exact ih5 _ _ _ _ _
   | exact tlex_Plain.mono _ _ _
   | exact tlex_Stamp.mono _ _
   | exact LeO.none _
   | refine LeO.ite ?_ ?_
   | refine LeO.bind ?_ (fun _ => ?_)
  ·intro y0 y1 y2 y3 y4
   unfold dragomanlaw10_TlexStamps.j5
   repeat' first
   | (with_reducible exact ih0 _ _ _ _ _ _ _ _)
   | (with_reducible exact ih1 _ _ _ _ _ _ _ _ _)
   | (with_reducible exact ih2 _ _ _ _ _ _ _ _)
   | (with_reducible exact ih3 _ _ _ _ _ _ _)
   | (with_reducible exact ih4 _ _ _ _ _)
   | (with_reducible exact ih5 _ _ _ _ _)
   | (with_reducible exact tlex_Plain.mono _ _ _)
   | (with_reducible exact tlex_Stamp.mono _ _)
   | (with_reducible exact LeO.refl _)
   | (with_reducible exact LeO.none _)
   | (with_reducible refine LeO.ite ?_ ?_)
   | (with_reducible refine LeO.bind ?_ (fun _ => ?_))
   | exact ih0 _ _ _ _ _ _ _ _
   | exact ih1 _ _ _ _ _ _ _ _ _
   | exact ih2 _ _ _ _ _ _ _ _
   | exact ih3 _ _ _ _ _ _ _
   | exact ih4 _ _ _ _ _
   | exact ih5 _ _ _ _ _
   | exact tlex_Plain.mono _ _ _
   | exact tlex_Stamp.mono _ _
   | exact LeO.none _
   | refine LeO.ite ?_ ?_
   | refine LeO.bind ?_ (fun _ => ?_)

theorem dragomanlaw10_TlexStamps.mono : ∀ a0 a1 a2 a3 a4 a5 a6 k, LeO (dragomanlaw10_TlexStamps.f k a0 a1 a2 a3 a4 a5 a6) (dragomanlaw10_TlexStamps.f (k + 1) a0 a1 a2 a3 a4 a5 a6) := by
 intro a0 a1 a2 a3 a4 a5 a6 k
 obtain ⟨ih0, ih1, ih2, ih3, ih4, ih5⟩ := dragomanlaw10_TlexStamps.mono_l k
 unfold dragomanlaw10_TlexStamps.f
 repeat' first
   | (with_reducible exact ih0 _ _ _ _ _ _ _ _)
   | (with_reducible exact ih1 _ _ _ _ _ _ _ _ _)
   | (with_reducible exact ih2 _ _ _ _ _ _ _ _)
   | (with_reducible exact ih3 _ _ _ _ _ _ _)
   | (with_reducible exact ih4 _ _ _ _ _)
   | (with_reducible exact ih5 _ _ _ _ _)
   | (with_reducible exact tlex_Plain.mono _ _ _)
   | (with_reducible exact tlex_Stamp.mono _ _)
   | (with_reducible exact LeO.refl _)
   | (with_reducible exact LeO.none _)
   | (with_reducible refine LeO.ite ?_ ?_)
   | (with_reducible refine LeO.bind ?_ (fun _ => ?_))
   | exact ih0 _ _ _ _ _ _ _ _
   | exact ih1 _ _ _ _ _ _ _ _ _
   | exact ih2 _ _ _ _ _ _ _ _
   | exact ih3 _ _ _ _ _ _ _
   | exact ih4 _ _ _ _ _
   | exact ih5 _ _ _ _ _
   | exact tlex_Plain.mono _ _ _
   | exact tlex_Stamp.mono _ _
   | exact LeO.none _
   | refine LeO.ite ?_ ?_
   | refine LeO.bind ?_ (fun _ => ?_)

/-- What stands behind the first parts of the law's code. -/
def sndC (c : Code) : Code := match c with | .seq _ b => b | c => c

def bodyC (f : Func) : Code := match f.body with | some c => c | none => .skip

def fstC (c : Code) : Code := match c with | .seq a _ => a | c => c

def code0 (f : Func) : Code := sndC (fstC (sndC (sndC (bodyC f))))

def code1 (f : Func) : Code := sndC (sndC (sndC (bodyC f)))

def code3 (f : Func) : Code := sndC (sndC (sndC (sndC (sndC (sndC (sndC (bodyC f)))))))

def code5 (f : Func) : Code := sndC (sndC (code3 f))

/-- THE ONE PURE STATEMENT of dragomanlaw10_TlexStamps: yours. -/
def dragomanlaw10_TlexStamps.Pure : Prop := ∀ (a0 : Int) (a1 : Int) (a2 : Int) (a3 : Int) (a4 : Int) (a5 : Int) (a6 : Int), (Lit.int .i64 a0).wf = true → (Lit.int .i64 a1).wf = true → (Lit.int .i64 a2).wf = true → (Lit.int .i64 a3).wf = true → (Lit.int .i64 a4).wf = true → (Lit.int .i64 a5).wf = true → (Lit.int .i64 a6).wf = true → ∃ k, dragomanlaw10_TlexStamps.f k a0 a1 a2 a3 a4 a5 a6 = some true

end Go.Proofs.YtfddpaljmihinaaGreatDoor.PStamps
