/-
  A walk printed by the kit's printer, with functions that are given, and turned by programs of this session. (Conditions: what each theorem asks.)
-/
import Derived.Test.YtfddpaljmihinaaGreatDoorPStampsx0
import Derived.Test.YtfddpaljmihinaaGreatDoorPStampsx4
import Derived.Test.YtfddpaljmihinaaGreatDoorPStampsx5
import Derived.Test.YtfddpaljmihinaaGreatDoorPStampsx6
-- PRINTED by print.py (a twelfth state) out of the translation. Not trusted: Lean checks it.
namespace Go.Proofs.YtfddpaljmihinaaGreatDoor.PStamps
open Go.RowKit Go.Proofs.YtfddpaljmihinaaGreatDoorW.PrintWords Go.Proofs.YtfddpaljmihinaaGreatDoorW.PrintLast Go.Proofs.YtfddpaljmihinaaGreatDoorW.PrintMore
attribute [local go_sem] max2_int min2_int max_two min_two max_three min_three max_four min_four   -- for this text's walks alone

set_option linter.unusedVariables false
set_option linter.unusedSimpArgs false

/-! ### tlex_Stamp: function 17 -/
mutual
def tlex_Stamp.j0 : Nat → ByteArray → Bool → Option (Bool)
 | 0, _, _ => none
 | k + 1, x0, x17 => if x17 = true then (some true) else (if (x0.size : Int) ≤ 10 then (tlex_Stamp.j1 k x0 true) else (if 0 ≤ 10 then (if 10 ≤ (x0.size : Int) then ((tlex_day.f k (x0.extract 0 10)).bind fun t161 => (if t161 = true then (if 10 ≤ 11 then (if 11 ≤ (x0.size : Int) then ((strings_Contains.f (⟨#[84, 116, 32]⟩ : ByteArray) (x0.extract 10 11)).bind fun t162 => (tlex_Stamp.j1 k x0 (!t162))) else (none)) else (none)) else (tlex_Stamp.j1 k x0 true))) else (none)) else (none)))
def tlex_Stamp.j1 : Nat → ByteArray → Bool → Option (Bool)
 | 0, _, _ => none
 | k + 1, x0, x32 => if x32 = true then (some false) else (if 11 ≤ (x0.size : Int) then ((tlex_clock.f k (x0.extract 11 x0.size)).bind fun t163 => (if t163 > 0 then (if 0 ≤ t163 then (if t163 ≤ ((x0.extract 11 x0.size).size : Int) then ((tlex_zone.f k ((x0.extract 11 x0.size).extract (t163 : Int).toNat (x0.extract 11 x0.size).size)).bind fun t164 => (some t164)) else (none)) else (none)) else (some false))) else (none))
end

def tlex_Stamp.f (k : Nat) (a0 : ByteArray) : Option (Bool) := (tlex_day.f k a0).bind fun t159 => (if t159 = true then (tlex_Stamp.j0 k a0 true) else (if a0.toList = ([] : List UInt8) then (tlex_Stamp.j0 k a0 false) else ((tlex_clock.f k a0).bind fun t160 => (tlex_Stamp.j0 k a0 (t160 == (a0.size : Int))))))

theorem tlex_Stamp.mono_l : ∀ k, (∀ y0 y1, LeO (tlex_Stamp.j0 k y0 y1) (tlex_Stamp.j0 (k + 1) y0 y1)) ∧ (∀ y0 y1, LeO (tlex_Stamp.j1 k y0 y1) (tlex_Stamp.j1 (k + 1) y0 y1))
 | 0 => ⟨fun _ _ r h => by simp [tlex_Stamp.j0] at h, fun _ _ r h => by simp [tlex_Stamp.j1] at h⟩
 | k + 1 => by
  obtain ⟨ih0, ih1⟩ := tlex_Stamp.mono_l k
  refine ⟨?_, ?_⟩
  ·intro y0 y1
   unfold tlex_Stamp.j0
   repeat' first
   | (with_reducible exact ih0 _ _)
   | (with_reducible exact ih1 _ _)
   | (with_reducible exact tlex_clock.mono _ _)
   | (with_reducible exact tlex_day.mono _ _)
   | (with_reducible exact tlex_zone.mono _ _)
   | (with_reducible exact LeO.refl _)
   | (with_reducible exact LeO.none _)
   | (with_reducible refine LeO.ite ?_ ?_)
   | (with_reducible refine LeO.bind ?_ (fun _ => ?_))
   | exact ih0 _ _
   | exact ih1 _ _
   | exact tlex_clock.mono _ _
   | exact tlex_day.mono _ _
   | exact tlex_zone.mono _ _
   | exact LeO.none _
   | refine LeO.ite ?_ ?_
   | refine LeO.bind ?_ (fun _ => ?_)
  ·intro y0 y1
   unfold tlex_Stamp.j1
   repeat' first
   | (with_reducible exact ih0 _ _)
   | (with_reducible exact ih1 _ _)
   | (with_reducible exact tlex_clock.mono _ _)
   | (with_reducible exact tlex_day.mono _ _)
   | (with_reducible exact tlex_zone.mono _ _)
   | (with_reducible exact LeO.refl _)
   | (with_reducible exact LeO.none _)
   | (with_reducible refine LeO.ite ?_ ?_)
   | (with_reducible refine LeO.bind ?_ (fun _ => ?_))
   | exact ih0 _ _
   | exact ih1 _ _
   | exact tlex_clock.mono _ _
   | exact tlex_day.mono _ _
   | exact tlex_zone.mono _ _
   | exact LeO.none _
   | refine LeO.ite ?_ ?_
   | refine LeO.bind ?_ (fun _ => ?_)

theorem tlex_Stamp.mono : ∀ a0 k, LeO (tlex_Stamp.f k a0) (tlex_Stamp.f (k + 1) a0) := by
 intro a0 k
 obtain ⟨ih0, ih1⟩ := tlex_Stamp.mono_l k
 unfold tlex_Stamp.f
 repeat' first
   | (with_reducible exact ih0 _ _)
   | (with_reducible exact ih1 _ _)
   | (with_reducible exact tlex_clock.mono _ _)
   | (with_reducible exact tlex_day.mono _ _)
   | (with_reducible exact tlex_zone.mono _ _)
   | (with_reducible exact LeO.refl _)
   | (with_reducible exact LeO.none _)
   | (with_reducible refine LeO.ite ?_ ?_)
   | (with_reducible refine LeO.bind ?_ (fun _ => ?_))
   | exact ih0 _ _
   | exact ih1 _ _
   | exact tlex_clock.mono _ _
   | exact tlex_day.mono _ _
   | exact tlex_zone.mono _ _
   | exact LeO.none _
   | refine LeO.ite ?_ ?_
   | refine LeO.bind ?_ (fun _ => ?_)

set_option maxHeartbeats 8000000 in
set_option maxRecDepth 100000 in
theorem tlex_Stamp.calls (k : Nat) (a0 : ByteArray) (r : Bool) (w : World) (h : tlex_Stamp.f k a0 = some r) :
  Calls Tryz.prog 17 #[.string a0] w fun e w' => e = .returned (.bool r) ∧ Below w.heap.size w w' := by
 have HB := Aside0.mk (Below.refl w.heap.size w)
 have H : ((tlex_day.f k a0).bind fun t159 => (if t159 = true then (tlex_Stamp.j0 k a0 true) else (if a0.toList = ([] : List UInt8) then (tlex_Stamp.j0 k a0 false) else ((tlex_clock.f k a0).bind fun t160 => (tlex_Stamp.j0 k a0 (t160 == (a0.size : Int))))))) = some r := h
 clear h
 have HC2 := Aside0.mk H
 clear H
 go_enter Tryz.func17, Tryz.ntmps17
 go_upto_region 1 with (fail)
 go_cut [17] (fun v17 wc => ∃ (kq : Nat) (x17_1 : Bool), v17 = .bool x17_1 ∧ Aside0 (tlex_Stamp.j0 kq a0 x17_1 = some r) ∧ Aside0 (kq ≤ k) ∧ Aside0 (Below w.heap.size w wc))
 case first =>
  have H := HC2.out
  clear HC2
  replace H := Option.bind_eq_some_iff.mp H
  obtain ⟨t159, A30, H⟩ := H
  replace H : (if t159 = true then (tlex_Stamp.j0 k a0 true) else (if a0.toList = ([] : List UInt8) then (tlex_Stamp.j0 k a0 false) else ((tlex_clock.f k a0).bind fun t160 => (tlex_Stamp.j0 k a0 (t160 == (a0.size : Int)))))) = some r := H
  have A3 := Aside0.mk A30
  clear A30
  by_cases c4 : t159 = true
  ·subst c4
   have H1 : (tlex_Stamp.j0 k a0 true) = some r := by rw [if_pos rfl] at H; exact H
   clear H
   have H := H1
   clear H1
   have H' := Aside0.mk H
   clear H
   go_wp2_with (first | ((with_reducible refine gate_callee (f := 43) rfl ?_); refine goesL_ (some 6) rfl rfl Tryz.func43 (by kernel_rfl) rfl #[.string a0] rfl (by (try simp only [List.map_toArray, List.map_cons, List.map_nil]); first | done | rfl | (simp only [List.length_drop, List.length_take]; rfl)) ?_; (with_reducible refine (tlex_day.calls k a0 true _ A3.out).mono ?_); rintro e w5 ⟨rfl, hb⟩; refine ⟨_, rfl, ?_⟩; have n0_ := Aside0.mk (below_step (by repeat (first | (with_reducible first | exact HB.out | apply below_alloc | apply pw_below_drewN | apply below_drew1) | exact HB.out)) hb); clear HB; have HB := n0_; clear n0_; (try clear hb); (try clear hb2); (try clear hk); (try clear hi)))
   go_meet
   case rel => exact ⟨_, (true), (by first | rfl | (simp; done) | (simp [*]; done)), H', ⟨by first | omega | exact Nat.le_refl _⟩, ⟨by repeat (first | (with_reducible first | exact HB.out | apply below_alloc | apply pw_below_drewN | apply below_drew1) | exact HB.out)⟩⟩
  ·replace c4 := Bool.eq_false_iff.mpr c4
   subst c4
   have H1 : (if a0.toList = ([] : List UInt8) then (tlex_Stamp.j0 k a0 false) else ((tlex_clock.f k a0).bind fun t160 => (tlex_Stamp.j0 k a0 (t160 == (a0.size : Int))))) = some r := by rw [if_neg (show ¬ (false = true) by decide)] at H; exact H
   clear H
   have H := H1
   clear H1
   by_cases c6 : a0.toList = ([] : List UInt8)
   ·rw [if_pos c6] at H
    have c6b0 : (a0.toList == ([] : List UInt8)) = true := beq_iff_eq.mpr c6
    have c6b1 : (a0.toList != ([] : List UInt8)) = false := bne_eq_false_iff_eq.mpr c6
    clear c6
    (first | rw [c6b0] | (simp only [i64_w, i32_w]; rw [c6b0]) | skip)
    have H' := Aside0.mk H
    clear H
    go_wp2_with (first | ((with_reducible refine gate_callee (f := 43) rfl ?_); refine goesL_ (some 6) rfl rfl Tryz.func43 (by kernel_rfl) rfl #[.string a0] rfl (by (try simp only [List.map_toArray, List.map_cons, List.map_nil]); first | done | rfl | (simp only [List.length_drop, List.length_take]; rfl)) ?_; (with_reducible refine (tlex_day.calls k a0 false _ A3.out).mono ?_); rintro e w7 ⟨rfl, hb⟩; refine ⟨_, rfl, ?_⟩; have n0_ := Aside0.mk (below_step (by repeat (first | (with_reducible first | exact HB.out | apply below_alloc | apply pw_below_drewN | apply below_drew1) | exact HB.out)) hb); clear HB; have HB := n0_; clear n0_; (try clear hb); (try clear hb2); (try clear hk); (try clear hi)))
    go_meet
    case rel => exact ⟨_, (false), (by first | rfl | (simp; done) | (simp [*]; done)), H', ⟨by first | omega | exact Nat.le_refl _⟩, ⟨by repeat (first | (with_reducible first | exact HB.out | apply below_alloc | apply pw_below_drewN | apply below_drew1) | exact HB.out)⟩⟩
   ·rw [if_neg c6] at H
    have c6b0 : (a0.toList == ([] : List UInt8)) = false := beq_eq_false_iff_ne.mpr c6
    have c6b1 : (a0.toList != ([] : List UInt8)) = true := bne_iff_ne.mpr c6
    (first | rw [c6b0] | (simp only [i64_w, i32_w]; rw [c6b0]) | skip)
    replace H := Option.bind_eq_some_iff.mp H
    obtain ⟨t160, A80, H⟩ := H
    replace H : (tlex_Stamp.j0 k a0 (t160 == (a0.size : Int))) = some r := H
    have A8 := Aside0.mk A80
    clear A80
    have H' := Aside0.mk H
    clear H
    go_wp2_with (first | ((with_reducible refine gate_callee (f := 43) rfl ?_); refine goesL_ (some 6) rfl rfl Tryz.func43 (by kernel_rfl) rfl #[.string a0] rfl (by (try simp only [List.map_toArray, List.map_cons, List.map_nil]); first | done | rfl | (simp only [List.length_drop, List.length_take]; rfl)) ?_; (with_reducible refine (tlex_day.calls k a0 false _ A3.out).mono ?_); rintro e w9 ⟨rfl, hb⟩; refine ⟨_, rfl, ?_⟩; have n0_ := Aside0.mk (below_step (by repeat (first | (with_reducible first | exact HB.out | apply below_alloc | apply pw_below_drewN | apply below_drew1) | exact HB.out)) hb); clear HB; have HB := n0_; clear n0_; (try clear hb); (try clear hb2); (try clear hk); (try clear hi)) | (go_at_call 44; (with_reducible refine (tlex_clock.calls k a0 t160 _ A8.out).mono ?_); rintro e w10 ⟨rfl, hb⟩; have n0_ := Aside0.mk (below_step (by repeat (first | (with_reducible first | exact HB.out | apply below_alloc | apply pw_below_drewN | apply below_drew1) | exact HB.out)) hb); clear HB; have HB := n0_; clear n0_; (try clear hb); (try clear hb2); (try clear hk); (try clear hi)))
    go_meet
    case rel => exact ⟨_, ((t160 == (a0.size : Int))), (by first | rfl | (simp; done) | (simp [*]; done)), H', ⟨by first | omega | exact Nat.le_refl _⟩, ⟨by repeat (first | (with_reducible first | exact HB.out | apply below_alloc | apply pw_below_drewN | apply below_drew1) | exact HB.out)⟩⟩
 case rest =>
  clear HC2
  try clear c1
  try clear p2
  try clear c4
  try clear c6
  try clear c6b0
  try clear c6b1
  obtain ⟨kq, x17_1, rfl, HA, HJ1, HB⟩ := hcut
  cases kq with
  | zero => exact absurd HA.out (by simp [tlex_Stamp.j0])
  | succ kj1 =>
   have H := HA.out
   clear HA
   simp only [tlex_Stamp.j0] at H
   by_cases c11 : x17_1 = true
   ·subst c11
    have H1 : (some true) = some r := by rw [if_pos rfl] at H; exact H
    clear H
    have H := H1
    clear H1
    obtain rfl := Option.some.inj H
    go_wp2
    go_ret
    exact ⟨by first | rfl | (simp [errW_none, errW_some] <;> rfl) | (simp [*, errW_none, errW_some] <;> rfl), by repeat (first | (with_reducible first | exact HB.out | apply below_alloc | apply pw_below_drewN | apply below_drew1) | exact HB.out)⟩
   ·replace c11 := Bool.eq_false_iff.mpr c11
    subst c11
    have H1 : (if (a0.size : Int) ≤ 10 then (tlex_Stamp.j1 kj1 a0 true) else (if 0 ≤ 10 then (if 10 ≤ (a0.size : Int) then ((tlex_day.f kj1 (a0.extract 0 10)).bind fun t161 => (if t161 = true then (if 10 ≤ 11 then (if 11 ≤ (a0.size : Int) then ((strings_Contains.f (⟨#[84, 116, 32]⟩ : ByteArray) (a0.extract 10 11)).bind fun t162 => (tlex_Stamp.j1 kj1 a0 (!t162))) else (none)) else (none)) else (tlex_Stamp.j1 kj1 a0 true))) else (none)) else (none))) = some r := by rw [if_neg (show ¬ (false = true) by decide)] at H; exact H
    clear H
    have H := H1
    clear H1
    have HC12 := Aside0.mk H
    clear H
    go_upto_region 3 with (fail)
    go_cut [32] (fun v32 wc => ∃ (kq : Nat) (x32_11 : Bool), v32 = .bool x32_11 ∧ Aside0 (tlex_Stamp.j1 kq a0 x32_11 = some r) ∧ Aside0 (kq ≤ kj1) ∧ Aside0 (Below w.heap.size w wc))
    case first =>
     have H := HC12.out
     clear HC12
     by_cases c13 : (a0.size : Int) ≤ 10
     ·rw [if_pos c13] at H
      have c13b0 : decide ((a0.size : Int) ≤ 10) = true := decide_eq_true c13
      have c13b1 : decide (a0.size ≤ 10) = true := decide_eq_true (by omega)
      clear c13
      (first | rw [c13b0] | (simp only [i64_w, i32_w]; rw [c13b0]) | skip)
      have H' := Aside0.mk H
      clear H
      go_wp2
      go_meet
      case rel => exact ⟨_, (true), (by first | rfl | (simp; done) | (simp [*]; done)), H', ⟨by have := HJ1.out; first | omega | exact Nat.le_refl _⟩, ⟨by repeat (first | (with_reducible first | exact HB.out | apply below_alloc | apply pw_below_drewN | apply below_drew1) | exact HB.out)⟩⟩
     ·rw [if_neg c13] at H
      have c13b0 : decide ((a0.size : Int) ≤ 10) = false := decide_eq_false c13
      have c13b1 : decide (a0.size ≤ 10) = false := decide_eq_false (by omega)
      clear c13
      (first | rw [c13b0] | (simp only [i64_w, i32_w]; rw [c13b0]) | skip)
      by_cases c14 : 0 ≤ 10
      ·rw [if_pos c14] at H
       have c14b0 := eq_true c14
       have c14b1 : decide (0 ≤ 10) = true := decide_eq_true c14
       clear c14
       by_cases c15 : 10 ≤ (a0.size : Int)
       ·rw [if_pos c15] at H
        have c15b0 := eq_true c15
        have c15b1 : decide (10 ≤ (a0.size : Int)) = true := decide_eq_true c15
        clear c15
        replace H := Option.bind_eq_some_iff.mp H
        obtain ⟨t161, A160, H⟩ := H
        replace H : (if t161 = true then (if 10 ≤ 11 then (if 11 ≤ (a0.size : Int) then ((strings_Contains.f (⟨#[84, 116, 32]⟩ : ByteArray) (a0.extract 10 11)).bind fun t162 => (tlex_Stamp.j1 kj1 a0 (!t162))) else (none)) else (none)) else (tlex_Stamp.j1 kj1 a0 true)) = some r := H
        have A16 := Aside0.mk A160
        clear A160
        by_cases c17 : t161 = true
        ·subst c17
         have H1 : (if 10 ≤ 11 then (if 11 ≤ (a0.size : Int) then ((strings_Contains.f (⟨#[84, 116, 32]⟩ : ByteArray) (a0.extract 10 11)).bind fun t162 => (tlex_Stamp.j1 kj1 a0 (!t162))) else (none)) else (none)) = some r := by rw [if_pos rfl] at H; exact H
         clear H
         have H := H1
         clear H1
         by_cases c18 : 10 ≤ 11
         ·rw [if_pos c18] at H
          have c18b0 := eq_true c18
          have c18b1 : decide (10 ≤ 11) = true := decide_eq_true c18
          clear c18
          by_cases c19 : 11 ≤ (a0.size : Int)
          ·rw [if_pos c19] at H
           have c19b0 := eq_true c19
           have c19b1 : decide (11 ≤ (a0.size : Int)) = true := decide_eq_true c19
           clear c19
           replace H := Option.bind_eq_some_iff.mp H
           obtain ⟨t162, A200, H⟩ := H
           replace H : (tlex_Stamp.j1 kj1 a0 (!t162)) = some r := H
           have A20 := Aside0.mk A200
           clear A200
           have H' := Aside0.mk H
           clear H
           go_wp2_with (first | (go_at_call 43; (with_reducible refine (tlex_day.calls kj1 (a0.extract 0 10) true _ A16.out).mono ?_); rintro e w21 ⟨rfl, hb⟩; have n0_ := Aside0.mk (below_step (by repeat (first | (with_reducible first | exact HB.out | apply below_alloc | apply pw_below_drewN | apply below_drew1) | exact HB.out)) hb); clear HB; have HB := n0_; clear n0_; (try clear hb); (try clear hb2); (try clear hk); (try clear hi)) | (go_at_call 32; (with_reducible refine (strings_Contains.calls (⟨#[84, 116, 32]⟩ : ByteArray) (a0.extract 10 11) t162 _ A20.out).mono ?_); rintro e w22 ⟨rfl, hb⟩; have n0_ := Aside0.mk (below_step (by repeat (first | (with_reducible first | exact HB.out | apply below_alloc | apply pw_below_drewN | apply below_drew1) | exact HB.out)) hb); clear HB; have HB := n0_; clear n0_; (try clear hb); (try clear hb2); (try clear hk); (try clear hi)))
           go_meet
           case rel => exact ⟨_, (!t162), (by first | rfl | (simp; done) | (simp [*]; done)), H', ⟨by have := HJ1.out; first | omega | exact Nat.le_refl _⟩, ⟨by repeat (first | (with_reducible first | exact HB.out | apply below_alloc | apply pw_below_drewN | apply below_drew1) | exact HB.out)⟩⟩
          ·rw [if_neg c19] at H
           exact absurd H (by simp)
         ·rw [if_neg c18] at H
          exact absurd H (by simp)
        ·replace c17 := Bool.eq_false_iff.mpr c17
         subst c17
         have H1 : (tlex_Stamp.j1 kj1 a0 true) = some r := by rw [if_neg (show ¬ (false = true) by decide)] at H; exact H
         clear H
         have H := H1
         clear H1
         have H' := Aside0.mk H
         clear H
         go_wp2_with (first | (go_at_call 43; (with_reducible refine (tlex_day.calls kj1 (a0.extract 0 10) false _ A16.out).mono ?_); rintro e w23 ⟨rfl, hb⟩; have n0_ := Aside0.mk (below_step (by repeat (first | (with_reducible first | exact HB.out | apply below_alloc | apply pw_below_drewN | apply below_drew1) | exact HB.out)) hb); clear HB; have HB := n0_; clear n0_; (try clear hb); (try clear hb2); (try clear hk); (try clear hi)))
         go_meet
         case rel => exact ⟨_, (true), (by first | rfl | (simp; done) | (simp [*]; done)), H', ⟨by have := HJ1.out; first | omega | exact Nat.le_refl _⟩, ⟨by repeat (first | (with_reducible first | exact HB.out | apply below_alloc | apply pw_below_drewN | apply below_drew1) | exact HB.out)⟩⟩
       ·rw [if_neg c15] at H
        exact absurd H (by simp)
      ·rw [if_neg c14] at H
       exact absurd H (by simp)
    case rest =>
     clear HC12
     try clear c1
     try clear p2
     try clear c4
     try clear c6
     try clear c6b0
     try clear c6b1
     try clear c11
     try clear c13
     try clear c13b0
     try clear c13b1
     try clear c14
     try clear c14b0
     try clear c14b1
     try clear c15
     try clear c15b0
     try clear c15b1
     try clear c17
     try clear c18
     try clear c18b0
     try clear c18b1
     try clear c19
     try clear c19b0
     try clear c19b1
     try clear p2
     obtain ⟨kq, x32_11, rfl, HA, HJ11, HB⟩ := hcut
     cases kq with
     | zero => exact absurd HA.out (by simp [tlex_Stamp.j1])
     | succ kj11 =>
      have H := HA.out
      clear HA
      simp only [tlex_Stamp.j1] at H
      by_cases c24 : x32_11 = true
      ·subst c24
       have H1 : (some false) = some r := by rw [if_pos rfl] at H; exact H
       clear H
       have H := H1
       clear H1
       obtain rfl := Option.some.inj H
       go_wp2
       go_ret
       exact ⟨by first | rfl | (simp [errW_none, errW_some] <;> rfl) | (simp [*, errW_none, errW_some] <;> rfl), by repeat (first | (with_reducible first | exact HB.out | apply below_alloc | apply pw_below_drewN | apply below_drew1) | exact HB.out)⟩
      ·replace c24 := Bool.eq_false_iff.mpr c24
       subst c24
       have H1 : (if 11 ≤ (a0.size : Int) then ((tlex_clock.f kj11 (a0.extract 11 a0.size)).bind fun t163 => (if t163 > 0 then (if 0 ≤ t163 then (if t163 ≤ ((a0.extract 11 a0.size).size : Int) then ((tlex_zone.f kj11 ((a0.extract 11 a0.size).extract (t163 : Int).toNat (a0.extract 11 a0.size).size)).bind fun t164 => (some t164)) else (none)) else (none)) else (some false))) else (none)) = some r := by rw [if_neg (show ¬ (false = true) by decide)] at H; exact H
       clear H
       have H := H1
       clear H1
       by_cases c25 : 11 ≤ (a0.size : Int)
       ·rw [if_pos c25] at H
        have c25b0 := eq_true c25
        have c25b1 : decide (11 ≤ (a0.size : Int)) = true := decide_eq_true c25
        clear c25
        replace H := Option.bind_eq_some_iff.mp H
        obtain ⟨t163, A260, H⟩ := H
        replace H : (if t163 > 0 then (if 0 ≤ t163 then (if t163 ≤ ((a0.extract 11 a0.size).size : Int) then ((tlex_zone.f kj11 ((a0.extract 11 a0.size).extract (t163 : Int).toNat (a0.extract 11 a0.size).size)).bind fun t164 => (some t164)) else (none)) else (none)) else (some false)) = some r := H
        have A26 := Aside0.mk A260
        clear A260
        by_cases c27 : t163 > 0
        ·rw [if_pos c27] at H
         have c27b0 : decide (0 < t163) = true := decide_eq_true c27
         clear c27
         by_cases c28 : 0 ≤ t163
         ·rw [if_pos c28] at H
          have c28b0 := eq_true c28
          have c28b1 : decide (0 ≤ t163) = true := decide_eq_true c28
          clear c28
          by_cases c29 : t163 ≤ ((a0.extract 11 a0.size).size : Int)
          ·rw [if_pos c29] at H
           have c29b0 := eq_true c29
           have c29b1 : decide (t163 ≤ ((a0.extract 11 a0.size).size : Int)) = true := decide_eq_true c29
           clear c29
           replace H := Option.bind_eq_some_iff.mp H
           obtain ⟨t164, A300, H⟩ := H
           replace H : (some t164) = some r := H
           have A30 := Aside0.mk A300
           clear A300
           obtain rfl := Option.some.inj H
           generalize hz11 : (a0.extract 11 a0.size) = z11 at *
           go_wp2_with (first | ((with_reducible refine gate_callee (f := 44) rfl ?_); refine goesL_ (some 36) rfl rfl Tryz.func44 (by kernel_rfl) rfl #[.string z11] rfl (by (try simp only [List.map_toArray, List.map_cons, List.map_nil]); first | done | rfl | (simp only [List.length_drop, List.length_take]; rfl)) ?_; (with_reducible refine (tlex_clock.calls kj11 z11 t163 _ A26.out).mono ?_); rintro e w31 ⟨rfl, hb⟩; refine ⟨_, rfl, ?_⟩; have n0_ := Aside0.mk (below_step (by repeat (first | (with_reducible first | exact HB.out | apply below_alloc | apply pw_below_drewN | apply below_drew1) | exact HB.out)) hb); clear HB; have HB := n0_; clear n0_; (try clear hb); (try clear hb2); (try clear hk); (try clear hi)) | (go_at_call 45; (with_reducible refine (tlex_zone.calls kj11 (z11.extract (t163 : Int).toNat z11.size) t164 _ A30.out).mono ?_); rintro e w32 ⟨rfl, hb⟩; have n0_ := Aside0.mk (below_step (by repeat (first | (with_reducible first | exact HB.out | apply below_alloc | apply pw_below_drewN | apply below_drew1) | exact HB.out)) hb); clear HB; have HB := n0_; clear n0_; (try clear hb); (try clear hb2); (try clear hk); (try clear hi)))
           go_ret
           exact ⟨by first | rfl | (simp [errW_none, errW_some] <;> rfl) | (simp [*, errW_none, errW_some] <;> rfl), by repeat (first | (with_reducible first | exact HB.out | apply below_alloc | apply pw_below_drewN | apply below_drew1) | exact HB.out)⟩
          ·rw [if_neg c29] at H
           exact absurd H (by simp)
         ·rw [if_neg c28] at H
          exact absurd H (by simp)
        ·rw [if_neg c27] at H
         have c27b0 : decide (0 < t163) = false := decide_eq_false c27
         clear c27
         obtain rfl := Option.some.inj H
         go_wp2_with (first | ((with_reducible refine gate_callee (f := 44) rfl ?_); refine goesL_ (some 36) rfl rfl Tryz.func44 (by kernel_rfl) rfl #[.string (a0.extract 11 a0.size)] rfl (by (try simp only [List.map_toArray, List.map_cons, List.map_nil]); first | done | rfl | (simp only [List.length_drop, List.length_take]; rfl)) ?_; (with_reducible refine (tlex_clock.calls kj11 (a0.extract 11 a0.size) t163 _ A26.out).mono ?_); rintro e w33 ⟨rfl, hb⟩; refine ⟨_, rfl, ?_⟩; have n0_ := Aside0.mk (below_step (by repeat (first | (with_reducible first | exact HB.out | apply below_alloc | apply pw_below_drewN | apply below_drew1) | exact HB.out)) hb); clear HB; have HB := n0_; clear n0_; (try clear hb); (try clear hb2); (try clear hk); (try clear hi)))
         go_ret
         exact ⟨by first | rfl | (simp [errW_none, errW_some] <;> rfl) | (simp [*, errW_none, errW_some] <;> rfl), by repeat (first | (with_reducible first | exact HB.out | apply below_alloc | apply pw_below_drewN | apply below_drew1) | exact HB.out)⟩
       ·rw [if_neg c25] at H
        exact absurd H (by simp)

-- GIVEN: function 120 (strings_IndexByte)

/-! ### tlex_inRow: function 70 -/
def tlex_inRow.f (a0 : Int) : Option (Bool) := if a0 ≥ 97 then (if a0 ≤ 122 then (some true) else (if a0 ≥ 65 then (if a0 ≤ 90 then (some true) else (if a0 ≥ 48 then (if a0 ≤ 57 then (some true) else ((strings_IndexByte.f (⟨#[95, 43, 45, 46, 58]⟩ : ByteArray) a0).bind fun t165 => (some (decide (t165 ≥ 0))))) else ((strings_IndexByte.f (⟨#[95, 43, 45, 46, 58]⟩ : ByteArray) a0).bind fun t166 => (some (decide (t166 ≥ 0)))))) else (if a0 ≥ 48 then (if a0 ≤ 57 then (some true) else ((strings_IndexByte.f (⟨#[95, 43, 45, 46, 58]⟩ : ByteArray) a0).bind fun t167 => (some (decide (t167 ≥ 0))))) else ((strings_IndexByte.f (⟨#[95, 43, 45, 46, 58]⟩ : ByteArray) a0).bind fun t168 => (some (decide (t168 ≥ 0))))))) else (if a0 ≥ 65 then (if a0 ≤ 90 then (some true) else (if a0 ≥ 48 then (if a0 ≤ 57 then (some true) else ((strings_IndexByte.f (⟨#[95, 43, 45, 46, 58]⟩ : ByteArray) a0).bind fun t169 => (some (decide (t169 ≥ 0))))) else ((strings_IndexByte.f (⟨#[95, 43, 45, 46, 58]⟩ : ByteArray) a0).bind fun t170 => (some (decide (t170 ≥ 0)))))) else (if a0 ≥ 48 then (if a0 ≤ 57 then (some true) else ((strings_IndexByte.f (⟨#[95, 43, 45, 46, 58]⟩ : ByteArray) a0).bind fun t171 => (some (decide (t171 ≥ 0))))) else ((strings_IndexByte.f (⟨#[95, 43, 45, 46, 58]⟩ : ByteArray) a0).bind fun t172 => (some (decide (t172 ≥ 0))))))

set_option maxHeartbeats 8000000 in
set_option maxRecDepth 100000 in
theorem tlex_inRow.calls (a0 : Int) (r : Bool) (w : World) (h : tlex_inRow.f a0 = some r) :
  Calls Tryz.prog 70 #[.int .u8 a0] w fun e w' => e = .returned (.bool r) ∧ Below w.heap.size w w' := by
 have HB := Aside0.mk (Below.refl w.heap.size w)
 have H : (if a0 ≥ 97 then (if a0 ≤ 122 then (some true) else (if a0 ≥ 65 then (if a0 ≤ 90 then (some true) else (if a0 ≥ 48 then (if a0 ≤ 57 then (some true) else ((strings_IndexByte.f (⟨#[95, 43, 45, 46, 58]⟩ : ByteArray) a0).bind fun t165 => (some (decide (t165 ≥ 0))))) else ((strings_IndexByte.f (⟨#[95, 43, 45, 46, 58]⟩ : ByteArray) a0).bind fun t166 => (some (decide (t166 ≥ 0)))))) else (if a0 ≥ 48 then (if a0 ≤ 57 then (some true) else ((strings_IndexByte.f (⟨#[95, 43, 45, 46, 58]⟩ : ByteArray) a0).bind fun t167 => (some (decide (t167 ≥ 0))))) else ((strings_IndexByte.f (⟨#[95, 43, 45, 46, 58]⟩ : ByteArray) a0).bind fun t168 => (some (decide (t168 ≥ 0))))))) else (if a0 ≥ 65 then (if a0 ≤ 90 then (some true) else (if a0 ≥ 48 then (if a0 ≤ 57 then (some true) else ((strings_IndexByte.f (⟨#[95, 43, 45, 46, 58]⟩ : ByteArray) a0).bind fun t169 => (some (decide (t169 ≥ 0))))) else ((strings_IndexByte.f (⟨#[95, 43, 45, 46, 58]⟩ : ByteArray) a0).bind fun t170 => (some (decide (t170 ≥ 0)))))) else (if a0 ≥ 48 then (if a0 ≤ 57 then (some true) else ((strings_IndexByte.f (⟨#[95, 43, 45, 46, 58]⟩ : ByteArray) a0).bind fun t171 => (some (decide (t171 ≥ 0))))) else ((strings_IndexByte.f (⟨#[95, 43, 45, 46, 58]⟩ : ByteArray) a0).bind fun t172 => (some (decide (t172 ≥ 0))))))) = some r := h
 clear h
 by_cases c2 : a0 ≥ 97
 ·rw [if_pos c2] at H
  have c2b0 : decide (97 ≤ a0) = true := decide_eq_true c2
  clear c2
  by_cases c3 : a0 ≤ 122
  ·rw [if_pos c3] at H
   have c3b0 : decide (a0 ≤ 122) = true := decide_eq_true c3
   clear c3
   obtain rfl := Option.some.inj H
   go_enter Tryz.func70, Tryz.ntmps70
   go_wp2
   go_ret
   exact ⟨by first | rfl | (simp [errW_none, errW_some] <;> rfl) | (simp [*, errW_none, errW_some] <;> rfl), by repeat (first | (with_reducible first | exact HB.out | apply below_alloc | apply pw_below_drewN | apply below_drew1) | exact HB.out)⟩
  ·rw [if_neg c3] at H
   have c3b0 : decide (a0 ≤ 122) = false := decide_eq_false c3
   clear c3
   by_cases c4 : a0 ≥ 65
   ·rw [if_pos c4] at H
    have c4b0 : decide (65 ≤ a0) = true := decide_eq_true c4
    clear c4
    by_cases c5 : a0 ≤ 90
    ·rw [if_pos c5] at H
     have c5b0 : decide (a0 ≤ 90) = true := decide_eq_true c5
     clear c5
     obtain rfl := Option.some.inj H
     go_enter Tryz.func70, Tryz.ntmps70
     go_wp2
     go_ret
     exact ⟨by first | rfl | (simp [errW_none, errW_some] <;> rfl) | (simp [*, errW_none, errW_some] <;> rfl), by repeat (first | (with_reducible first | exact HB.out | apply below_alloc | apply pw_below_drewN | apply below_drew1) | exact HB.out)⟩
    ·rw [if_neg c5] at H
     have c5b0 : decide (a0 ≤ 90) = false := decide_eq_false c5
     clear c5
     by_cases c6 : a0 ≥ 48
     ·rw [if_pos c6] at H
      have c6b0 : decide (48 ≤ a0) = true := decide_eq_true c6
      clear c6
      by_cases c7 : a0 ≤ 57
      ·rw [if_pos c7] at H
       have c7b0 : decide (a0 ≤ 57) = true := decide_eq_true c7
       clear c7
       obtain rfl := Option.some.inj H
       go_enter Tryz.func70, Tryz.ntmps70
       go_wp2
       go_ret
       exact ⟨by first | rfl | (simp [errW_none, errW_some] <;> rfl) | (simp [*, errW_none, errW_some] <;> rfl), by repeat (first | (with_reducible first | exact HB.out | apply below_alloc | apply pw_below_drewN | apply below_drew1) | exact HB.out)⟩
      ·rw [if_neg c7] at H
       have c7b0 : decide (a0 ≤ 57) = false := decide_eq_false c7
       clear c7
       replace H := Option.bind_eq_some_iff.mp H
       obtain ⟨t165, A80, H⟩ := H
       replace H : (some (decide (t165 ≥ 0))) = some r := H
       have A8 := Aside0.mk A80
       clear A80
       obtain rfl := Option.some.inj H
       go_enter Tryz.func70, Tryz.ntmps70
       go_wp2_with (first | (go_at_call 120; (with_reducible refine (strings_IndexByte.calls (⟨#[95, 43, 45, 46, 58]⟩ : ByteArray) a0 t165 _ A8.out).mono ?_); rintro e w9 ⟨rfl, hb⟩; have n0_ := Aside0.mk (below_step (by repeat (first | (with_reducible first | exact HB.out | apply below_alloc | apply pw_below_drewN | apply below_drew1) | exact HB.out)) hb); clear HB; have HB := n0_; clear n0_; (try clear hb); (try clear hb2); (try clear hk); (try clear hi)))
       go_ret
       exact ⟨by first | rfl | (simp [errW_none, errW_some] <;> rfl) | (simp [*, errW_none, errW_some] <;> rfl), by repeat (first | (with_reducible first | exact HB.out | apply below_alloc | apply pw_below_drewN | apply below_drew1) | exact HB.out)⟩
     ·rw [if_neg c6] at H
      have c6b0 : decide (48 ≤ a0) = false := decide_eq_false c6
      clear c6
      replace H := Option.bind_eq_some_iff.mp H
      obtain ⟨t166, A100, H⟩ := H
      replace H : (some (decide (t166 ≥ 0))) = some r := H
      have A10 := Aside0.mk A100
      clear A100
      obtain rfl := Option.some.inj H
      go_enter Tryz.func70, Tryz.ntmps70
      go_wp2_with (first | (go_at_call 120; (with_reducible refine (strings_IndexByte.calls (⟨#[95, 43, 45, 46, 58]⟩ : ByteArray) a0 t166 _ A10.out).mono ?_); rintro e w11 ⟨rfl, hb⟩; have n0_ := Aside0.mk (below_step (by repeat (first | (with_reducible first | exact HB.out | apply below_alloc | apply pw_below_drewN | apply below_drew1) | exact HB.out)) hb); clear HB; have HB := n0_; clear n0_; (try clear hb); (try clear hb2); (try clear hk); (try clear hi)))
      go_ret
      exact ⟨by first | rfl | (simp [errW_none, errW_some] <;> rfl) | (simp [*, errW_none, errW_some] <;> rfl), by repeat (first | (with_reducible first | exact HB.out | apply below_alloc | apply pw_below_drewN | apply below_drew1) | exact HB.out)⟩
   ·rw [if_neg c4] at H
    have c4b0 : decide (65 ≤ a0) = false := decide_eq_false c4
    clear c4
    by_cases c12 : a0 ≥ 48
    ·rw [if_pos c12] at H
     have c12b0 : decide (48 ≤ a0) = true := decide_eq_true c12
     clear c12
     by_cases c13 : a0 ≤ 57
     ·rw [if_pos c13] at H
      have c13b0 : decide (a0 ≤ 57) = true := decide_eq_true c13
      clear c13
      obtain rfl := Option.some.inj H
      go_enter Tryz.func70, Tryz.ntmps70
      go_wp2
      go_ret
      exact ⟨by first | rfl | (simp [errW_none, errW_some] <;> rfl) | (simp [*, errW_none, errW_some] <;> rfl), by repeat (first | (with_reducible first | exact HB.out | apply below_alloc | apply pw_below_drewN | apply below_drew1) | exact HB.out)⟩
     ·rw [if_neg c13] at H
      have c13b0 : decide (a0 ≤ 57) = false := decide_eq_false c13
      clear c13
      replace H := Option.bind_eq_some_iff.mp H
      obtain ⟨t167, A140, H⟩ := H
      replace H : (some (decide (t167 ≥ 0))) = some r := H
      have A14 := Aside0.mk A140
      clear A140
      obtain rfl := Option.some.inj H
      go_enter Tryz.func70, Tryz.ntmps70
      go_wp2_with (first | (go_at_call 120; (with_reducible refine (strings_IndexByte.calls (⟨#[95, 43, 45, 46, 58]⟩ : ByteArray) a0 t167 _ A14.out).mono ?_); rintro e w15 ⟨rfl, hb⟩; have n0_ := Aside0.mk (below_step (by repeat (first | (with_reducible first | exact HB.out | apply below_alloc | apply pw_below_drewN | apply below_drew1) | exact HB.out)) hb); clear HB; have HB := n0_; clear n0_; (try clear hb); (try clear hb2); (try clear hk); (try clear hi)))
      go_ret
      exact ⟨by first | rfl | (simp [errW_none, errW_some] <;> rfl) | (simp [*, errW_none, errW_some] <;> rfl), by repeat (first | (with_reducible first | exact HB.out | apply below_alloc | apply pw_below_drewN | apply below_drew1) | exact HB.out)⟩
    ·rw [if_neg c12] at H
     have c12b0 : decide (48 ≤ a0) = false := decide_eq_false c12
     clear c12
     replace H := Option.bind_eq_some_iff.mp H
     obtain ⟨t168, A160, H⟩ := H
     replace H : (some (decide (t168 ≥ 0))) = some r := H
     have A16 := Aside0.mk A160
     clear A160
     obtain rfl := Option.some.inj H
     go_enter Tryz.func70, Tryz.ntmps70
     go_wp2_with (first | (go_at_call 120; (with_reducible refine (strings_IndexByte.calls (⟨#[95, 43, 45, 46, 58]⟩ : ByteArray) a0 t168 _ A16.out).mono ?_); rintro e w17 ⟨rfl, hb⟩; have n0_ := Aside0.mk (below_step (by repeat (first | (with_reducible first | exact HB.out | apply below_alloc | apply pw_below_drewN | apply below_drew1) | exact HB.out)) hb); clear HB; have HB := n0_; clear n0_; (try clear hb); (try clear hb2); (try clear hk); (try clear hi)))
     go_ret
     exact ⟨by first | rfl | (simp [errW_none, errW_some] <;> rfl) | (simp [*, errW_none, errW_some] <;> rfl), by repeat (first | (with_reducible first | exact HB.out | apply below_alloc | apply pw_below_drewN | apply below_drew1) | exact HB.out)⟩
 ·rw [if_neg c2] at H
  have c2b0 : decide (97 ≤ a0) = false := decide_eq_false c2
  clear c2
  by_cases c18 : a0 ≥ 65
  ·rw [if_pos c18] at H
   have c18b0 : decide (65 ≤ a0) = true := decide_eq_true c18
   clear c18
   by_cases c19 : a0 ≤ 90
   ·rw [if_pos c19] at H
    have c19b0 : decide (a0 ≤ 90) = true := decide_eq_true c19
    clear c19
    obtain rfl := Option.some.inj H
    go_enter Tryz.func70, Tryz.ntmps70
    go_wp2
    go_ret
    exact ⟨by first | rfl | (simp [errW_none, errW_some] <;> rfl) | (simp [*, errW_none, errW_some] <;> rfl), by repeat (first | (with_reducible first | exact HB.out | apply below_alloc | apply pw_below_drewN | apply below_drew1) | exact HB.out)⟩
   ·rw [if_neg c19] at H
    have c19b0 : decide (a0 ≤ 90) = false := decide_eq_false c19
    clear c19
    by_cases c20 : a0 ≥ 48
    ·rw [if_pos c20] at H
     have c20b0 : decide (48 ≤ a0) = true := decide_eq_true c20
     clear c20
     by_cases c21 : a0 ≤ 57
     ·rw [if_pos c21] at H
      have c21b0 : decide (a0 ≤ 57) = true := decide_eq_true c21
      clear c21
      obtain rfl := Option.some.inj H
      go_enter Tryz.func70, Tryz.ntmps70
      go_wp2
      go_ret
      exact ⟨by first | rfl | (simp [errW_none, errW_some] <;> rfl) | (simp [*, errW_none, errW_some] <;> rfl), by repeat (first | (with_reducible first | exact HB.out | apply below_alloc | apply pw_below_drewN | apply below_drew1) | exact HB.out)⟩
     ·rw [if_neg c21] at H
      have c21b0 : decide (a0 ≤ 57) = false := decide_eq_false c21
      clear c21
      replace H := Option.bind_eq_some_iff.mp H
      obtain ⟨t169, A220, H⟩ := H
      replace H : (some (decide (t169 ≥ 0))) = some r := H
      have A22 := Aside0.mk A220
      clear A220
      obtain rfl := Option.some.inj H
      go_enter Tryz.func70, Tryz.ntmps70
      go_wp2_with (first | (go_at_call 120; (with_reducible refine (strings_IndexByte.calls (⟨#[95, 43, 45, 46, 58]⟩ : ByteArray) a0 t169 _ A22.out).mono ?_); rintro e w23 ⟨rfl, hb⟩; have n0_ := Aside0.mk (below_step (by repeat (first | (with_reducible first | exact HB.out | apply below_alloc | apply pw_below_drewN | apply below_drew1) | exact HB.out)) hb); clear HB; have HB := n0_; clear n0_; (try clear hb); (try clear hb2); (try clear hk); (try clear hi)))
      go_ret
      exact ⟨by first | rfl | (simp [errW_none, errW_some] <;> rfl) | (simp [*, errW_none, errW_some] <;> rfl), by repeat (first | (with_reducible first | exact HB.out | apply below_alloc | apply pw_below_drewN | apply below_drew1) | exact HB.out)⟩
    ·rw [if_neg c20] at H
     have c20b0 : decide (48 ≤ a0) = false := decide_eq_false c20
     clear c20
     replace H := Option.bind_eq_some_iff.mp H
     obtain ⟨t170, A240, H⟩ := H
     replace H : (some (decide (t170 ≥ 0))) = some r := H
     have A24 := Aside0.mk A240
     clear A240
     obtain rfl := Option.some.inj H
     go_enter Tryz.func70, Tryz.ntmps70
     go_wp2_with (first | (go_at_call 120; (with_reducible refine (strings_IndexByte.calls (⟨#[95, 43, 45, 46, 58]⟩ : ByteArray) a0 t170 _ A24.out).mono ?_); rintro e w25 ⟨rfl, hb⟩; have n0_ := Aside0.mk (below_step (by repeat (first | (with_reducible first | exact HB.out | apply below_alloc | apply pw_below_drewN | apply below_drew1) | exact HB.out)) hb); clear HB; have HB := n0_; clear n0_; (try clear hb); (try clear hb2); (try clear hk); (try clear hi)))
     go_ret
     exact ⟨by first | rfl | (simp [errW_none, errW_some] <;> rfl) | (simp [*, errW_none, errW_some] <;> rfl), by repeat (first | (with_reducible first | exact HB.out | apply below_alloc | apply pw_below_drewN | apply below_drew1) | exact HB.out)⟩
  ·rw [if_neg c18] at H
   have c18b0 : decide (65 ≤ a0) = false := decide_eq_false c18
   clear c18
   by_cases c26 : a0 ≥ 48
   ·rw [if_pos c26] at H
    have c26b0 : decide (48 ≤ a0) = true := decide_eq_true c26
    clear c26
    by_cases c27 : a0 ≤ 57
    ·rw [if_pos c27] at H
     have c27b0 : decide (a0 ≤ 57) = true := decide_eq_true c27
     clear c27
     obtain rfl := Option.some.inj H
     go_enter Tryz.func70, Tryz.ntmps70
     go_wp2
     go_ret
     exact ⟨by first | rfl | (simp [errW_none, errW_some] <;> rfl) | (simp [*, errW_none, errW_some] <;> rfl), by repeat (first | (with_reducible first | exact HB.out | apply below_alloc | apply pw_below_drewN | apply below_drew1) | exact HB.out)⟩
    ·rw [if_neg c27] at H
     have c27b0 : decide (a0 ≤ 57) = false := decide_eq_false c27
     clear c27
     replace H := Option.bind_eq_some_iff.mp H
     obtain ⟨t171, A280, H⟩ := H
     replace H : (some (decide (t171 ≥ 0))) = some r := H
     have A28 := Aside0.mk A280
     clear A280
     obtain rfl := Option.some.inj H
     go_enter Tryz.func70, Tryz.ntmps70
     go_wp2_with (first | (go_at_call 120; (with_reducible refine (strings_IndexByte.calls (⟨#[95, 43, 45, 46, 58]⟩ : ByteArray) a0 t171 _ A28.out).mono ?_); rintro e w29 ⟨rfl, hb⟩; have n0_ := Aside0.mk (below_step (by repeat (first | (with_reducible first | exact HB.out | apply below_alloc | apply pw_below_drewN | apply below_drew1) | exact HB.out)) hb); clear HB; have HB := n0_; clear n0_; (try clear hb); (try clear hb2); (try clear hk); (try clear hi)))
     go_ret
     exact ⟨by first | rfl | (simp [errW_none, errW_some] <;> rfl) | (simp [*, errW_none, errW_some] <;> rfl), by repeat (first | (with_reducible first | exact HB.out | apply below_alloc | apply pw_below_drewN | apply below_drew1) | exact HB.out)⟩
   ·rw [if_neg c26] at H
    have c26b0 : decide (48 ≤ a0) = false := decide_eq_false c26
    clear c26
    replace H := Option.bind_eq_some_iff.mp H
    obtain ⟨t172, A300, H⟩ := H
    replace H : (some (decide (t172 ≥ 0))) = some r := H
    have A30 := Aside0.mk A300
    clear A300
    obtain rfl := Option.some.inj H
    go_enter Tryz.func70, Tryz.ntmps70
    go_wp2_with (first | (go_at_call 120; (with_reducible refine (strings_IndexByte.calls (⟨#[95, 43, 45, 46, 58]⟩ : ByteArray) a0 t172 _ A30.out).mono ?_); rintro e w31 ⟨rfl, hb⟩; have n0_ := Aside0.mk (below_step (by repeat (first | (with_reducible first | exact HB.out | apply below_alloc | apply pw_below_drewN | apply below_drew1) | exact HB.out)) hb); clear HB; have HB := n0_; clear n0_; (try clear hb); (try clear hb2); (try clear hk); (try clear hi)))
    go_ret
    exact ⟨by first | rfl | (simp [errW_none, errW_some] <;> rfl) | (simp [*, errW_none, errW_some] <;> rfl), by repeat (first | (with_reducible first | exact HB.out | apply below_alloc | apply pw_below_drewN | apply below_drew1) | exact HB.out)⟩

/-! ### tlex_row: function 42 -/
def tlex_row.l0 : Nat → ByteArray → Int → Option (ByteArray)
 | 0, _, _ => none
 | k + 1, x0, x3 => if x3 < (x0.size : Int) then (if 0 ≤ x3 then ((tlex_inRow.f (bt x0 x3)).bind fun t173 => (if t173 = true then (tlex_row.l0 k x0 (wrap64 (x3 + 1))) else (if x3 ≤ (x0.size : Int) then (some (x0.extract 0 (x3 : Int).toNat)) else (none)))) else (none)) else (if 0 ≤ x3 then (if x3 ≤ (x0.size : Int) then (some (x0.extract 0 (x3 : Int).toNat)) else (none)) else (none))

def tlex_row.f (k : Nat) (a0 : ByteArray) : Option (ByteArray) := tlex_row.l0 k a0 0

theorem tlex_row.mono_l : ∀ k, (∀ y0 y1, LeO (tlex_row.l0 k y0 y1) (tlex_row.l0 (k + 1) y0 y1))
 | 0 => fun _ _ r h => by simp [tlex_row.l0] at h
 | k + 1 => by
  have ih0 := tlex_row.mono_l k
  ·intro y0 y1
   unfold tlex_row.l0
   repeat' first
   | (with_reducible exact ih0 _ _)
   | (with_reducible exact LeO.refl _)
   | (with_reducible exact LeO.none _)
   | (with_reducible refine LeO.ite ?_ ?_)
   | (with_reducible refine LeO.bind ?_ (fun _ => ?_))
   | exact ih0 _ _
   | exact LeO.none _
   | refine LeO.ite ?_ ?_
   | refine LeO.bind ?_ (fun _ => ?_)

theorem tlex_row.mono : ∀ a0 k, LeO (tlex_row.f k a0) (tlex_row.f (k + 1) a0) := by
 intro a0 k
 have ih0 := tlex_row.mono_l k
 unfold tlex_row.f
 repeat' first
   | (with_reducible exact ih0 _ _)
   | (with_reducible exact LeO.refl _)
   | (with_reducible exact LeO.none _)
   | (with_reducible refine LeO.ite ?_ ?_)
   | (with_reducible refine LeO.bind ?_ (fun _ => ?_))
   | exact ih0 _ _
   | exact LeO.none _
   | refine LeO.ite ?_ ?_
   | refine LeO.bind ?_ (fun _ => ?_)

set_option maxHeartbeats 8000000 in
set_option maxRecDepth 100000 in
theorem tlex_row.calls (k : Nat) (a0 : ByteArray) (r : ByteArray) (w : World) (h : tlex_row.f k a0 = some r) :
  Calls Tryz.prog 42 #[.string a0] w fun e w' => e = .returned (.string r) ∧ Below w.heap.size w w' := by
 have HB := Aside0.mk (Below.refl w.heap.size w)
 have H : (tlex_row.l0 k a0 0) = some r := h
 clear h
 have H' := Aside0.mk H
 clear H
 go_enter Tryz.func42, Tryz.ntmps42
 go_wp2
 go_loopg [3] k (fun kq v3 w' => ∃ (x3_1 : Int), v3 = .int .i64 x3_1 ∧ Aside0 (tlex_row.l0 kq a0 x3_1 = some r) ∧ Aside0 (kq ≤ k) ∧ Aside0 (Below w.heap.size w w'))
 case atStart => exact ⟨(0), (by first | rfl | (simp; done) | (simp [*]; done)), H', ⟨Nat.le_refl _⟩, ⟨by repeat (first | (with_reducible first | exact HB.out | apply below_alloc | apply pw_below_drewN | apply below_drew1) | exact HB.out)⟩⟩
 case round =>
  clear H'
  obtain ⟨x3_1, rfl, HA, HK1, HB⟩ := hrel
  cases gk with
  | zero => exact absurd HA.out (by simp [tlex_row.l0])
  | succ k1 =>
   have H := HA.out
   clear HA
   simp only [tlex_row.l0] at H
   by_cases c2 : x3_1 < (a0.size : Int)
   ·rw [if_pos c2] at H
    have c2b0 : decide (x3_1 < (a0.size : Int)) = true := decide_eq_true c2
    clear c2
    by_cases c3 : 0 ≤ x3_1
    ·rw [if_pos c3] at H
     have c3b0 : decide (0 ≤ x3_1) = true := decide_eq_true c3
     clear c3
     replace H := Option.bind_eq_some_iff.mp H
     obtain ⟨t173, A50, H⟩ := H
     replace H : (if t173 = true then (tlex_row.l0 k1 a0 (wrap64 (x3_1 + 1))) else (if x3_1 ≤ (a0.size : Int) then (some (a0.extract 0 (x3_1 : Int).toNat)) else (none))) = some r := H
     have A5 := Aside0.mk A50
     clear A50
     by_cases c6 : t173 = true
     ·subst c6
      have H1 : (tlex_row.l0 k1 a0 (wrap64 (x3_1 + 1))) = some r := by rw [if_pos rfl] at H; exact H
      clear H
      have H := H1
      clear H1
      have H' := Aside0.mk H
      clear H
      have p4 : 0 ≤ (x3_1 : Int) := of_decide_eq_true (by first | (with_reducible assumption) | assumption)
      have q4 : x3_1 < (a0.size : Int) := of_decide_eq_true (by first | (with_reducible assumption) | assumption)
      have hx4 := bt_at a0 x3_1
      replace p4 := eq_true p4
      replace q4 := eq_true q4
      go_wp2_with (first | (go_at_call 70; (with_reducible refine (tlex_inRow.calls (bt a0 x3_1) true _ A5.out).mono ?_); rintro e w7 ⟨rfl, hb⟩; have n0_ := Aside0.mk (below_step (by repeat (first | (with_reducible first | exact HB.out | apply below_alloc | apply pw_below_drewN | apply below_drew1) | exact HB.out)) hb); clear HB; have HB := n0_; clear n0_; (try clear hb); (try clear hb2); (try clear hk); (try clear hi)))
      go_roundg k1
      case measure => have := HK1.out; omega
      case rel => exact ⟨(wrap64 (x3_1 + 1)), (by first | rfl | (simp; done) | (simp [*]; done)), H', ⟨by have := HK1.out; omega⟩, ⟨by repeat (first | (with_reducible first | exact HB.out | apply below_alloc | apply pw_below_drewN | apply below_drew1) | exact HB.out)⟩⟩
     ·replace c6 := Bool.eq_false_iff.mpr c6
      subst c6
      have H1 : (if x3_1 ≤ (a0.size : Int) then (some (a0.extract 0 (x3_1 : Int).toNat)) else (none)) = some r := by rw [if_neg (show ¬ (false = true) by decide)] at H; exact H
      clear H
      have H := H1
      clear H1
      have c8b0 := eq_true (of_decide_eq_true (by first | (with_reducible assumption) | assumption) : 0 ≤ x3_1)
      by_cases c9 : x3_1 ≤ (a0.size : Int)
      ·rw [if_pos c9] at H
       have c9b0 := eq_true c9
       have c9b1 : decide (x3_1 ≤ (a0.size : Int)) = true := decide_eq_true c9
       clear c9
       obtain rfl := Option.some.inj H
       have p4 : 0 ≤ (x3_1 : Int) := of_decide_eq_true (by first | (with_reducible assumption) | assumption)
       have q4 : x3_1 < (a0.size : Int) := of_decide_eq_true (by first | (with_reducible assumption) | assumption)
       have hx4 := bt_at a0 x3_1
       replace p4 := eq_true p4
       replace q4 := eq_true q4
       go_wp2_with (first | (go_at_call 70; (with_reducible refine (tlex_inRow.calls (bt a0 x3_1) false _ A5.out).mono ?_); rintro e w10 ⟨rfl, hb⟩; have n0_ := Aside0.mk (below_step (by repeat (first | (with_reducible first | exact HB.out | apply below_alloc | apply pw_below_drewN | apply below_drew1) | exact HB.out)) hb); clear HB; have HB := n0_; clear n0_; (try clear hb); (try clear hb2); (try clear hk); (try clear hi)))
       go_ret
       exact ⟨by first | rfl | (simp [errW_none, errW_some] <;> rfl) | (simp [*, errW_none, errW_some] <;> rfl), by repeat (first | (with_reducible first | exact HB.out | apply below_alloc | apply pw_below_drewN | apply below_drew1) | exact HB.out)⟩
      ·rw [if_neg c9] at H
       exact absurd H (by simp)
    ·rw [if_neg c3] at H
     exact absurd H (by simp)
   ·rw [if_neg c2] at H
    have c2b0 : decide (x3_1 < (a0.size : Int)) = false := decide_eq_false c2
    clear c2
    by_cases c11 : 0 ≤ x3_1
    ·rw [if_pos c11] at H
     have c11b0 := eq_true c11
     have c11b1 : decide (0 ≤ x3_1) = true := decide_eq_true c11
     clear c11
     by_cases c12 : x3_1 ≤ (a0.size : Int)
     ·rw [if_pos c12] at H
      have c12b0 := eq_true c12
      have c12b1 : decide (x3_1 ≤ (a0.size : Int)) = true := decide_eq_true c12
      clear c12
      obtain rfl := Option.some.inj H
      go_wp2
      go_ret
      exact ⟨by first | rfl | (simp [errW_none, errW_some] <;> rfl) | (simp [*, errW_none, errW_some] <;> rfl), by repeat (first | (with_reducible first | exact HB.out | apply below_alloc | apply pw_below_drewN | apply below_drew1) | exact HB.out)⟩
     ·rw [if_neg c12] at H
      exact absurd H (by simp)
    ·rw [if_neg c11] at H
     exact absurd H (by simp)

end Go.Proofs.YtfddpaljmihinaaGreatDoor.PStamps
