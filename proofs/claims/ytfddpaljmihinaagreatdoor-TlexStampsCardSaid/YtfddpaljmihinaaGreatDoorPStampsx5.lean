/-
  A walk printed by the kit's printer, with functions that are given, and turned by programs of this session. (Conditions: what each theorem asks.)
-/
import Derived.Test.YtfddpaljmihinaaGreatDoorPStampsx0
import Derived.Test.YtfddpaljmihinaaGreatDoorPStampsx1
-- PRINTED by print.py (a twelfth state) out of the translation. Not trusted: Lean checks it.
namespace Go.Proofs.YtfddpaljmihinaaGreatDoor.PStamps
open Go.RowKit Go.Proofs.YtfddpaljmihinaaGreatDoorW.PrintWords Go.Proofs.YtfddpaljmihinaaGreatDoorW.PrintLast Go.Proofs.YtfddpaljmihinaaGreatDoorW.PrintMore
attribute [local go_sem] max2_int min2_int max_two min_two max_three min_three max_four min_four   -- for this text's walks alone

set_option linter.unusedVariables false
set_option linter.unusedSimpArgs false

/-! ### tlex_clock: function 44 -/
mutual
def tlex_clock.j0 : Nat → ByteArray → Bool → Option (Int)
 | 0, _, _ => none
 | k + 1, x0, x20 => if x20 = true then (some 0) else (if 0 ≤ 2 then (if 2 ≤ (x0.size : Int) then ((tlex_number.f (x0.extract 0 2)).bind fun t152 => (if 3 ≤ 5 then (if 5 ≤ (x0.size : Int) then ((tlex_number.f (x0.extract 3 5)).bind fun t153 => (if 6 ≤ 8 then (if 8 ≤ (x0.size : Int) then ((tlex_number.f (x0.extract 6 8)).bind fun t154 => (if t152 < 0 then (tlex_clock.j1 k x0 true) else (if t152 > 23 then (tlex_clock.j1 k x0 true) else (if t153 < 0 then (tlex_clock.j1 k x0 true) else (if t153 > 59 then (tlex_clock.j1 k x0 true) else (if t154 < 0 then (tlex_clock.j1 k x0 true) else (tlex_clock.j1 k x0 (decide (t154 > 60))))))))) else (none)) else (none))) else (none)) else (none))) else (none)) else (none))
def tlex_clock.j1 : Nat → ByteArray → Bool → Option (Int)
 | 0, _, _ => none
 | k + 1, x0, x51 => if x51 = true then (some 0) else (if 8 ≤ (x0.size : Int) then ((strings_HasPrefix.f (x0.extract 8 x0.size) (⟨#[46]⟩ : ByteArray)).bind fun t155 => (if t155 = true then (if 9 ≤ (x0.size : Int) then ((strings_TrimLeft.f (x0.extract 9 x0.size) (⟨#[48, 49, 50, 51, 52, 53, 54, 55, 56, 57]⟩ : ByteArray)).bind fun t156 => (if (wrap64 (((x0.extract 9 x0.size).size : Int) - (t156.size : Int))) < 1 then (some 0) else (if (wrap64 (((x0.extract 9 x0.size).size : Int) - (t156.size : Int))) > 9 then (some 0) else (some (wrap64 (9 + (wrap64 (((x0.extract 9 x0.size).size : Int) - (t156.size : Int))))))))) else (none)) else (some 8))) else (none))
end

def tlex_clock.f (k : Nat) (a0 : ByteArray) : Option (Int) := if (a0.size : Int) < 8 then (tlex_clock.j0 k a0 true) else (if 2 < (a0.size : Int) then (if (bt a0 2) = 58 then (if 5 < (a0.size : Int) then (tlex_clock.j0 k a0 ((bt a0 5) != 58)) else (none)) else (tlex_clock.j0 k a0 true)) else (none))

theorem tlex_clock.mono_l : ∀ k, (∀ y0 y1, LeO (tlex_clock.j0 k y0 y1) (tlex_clock.j0 (k + 1) y0 y1)) ∧ (∀ y0 y1, LeO (tlex_clock.j1 k y0 y1) (tlex_clock.j1 (k + 1) y0 y1))
 | 0 => ⟨fun _ _ r h => by simp [tlex_clock.j0] at h, fun _ _ r h => by simp [tlex_clock.j1] at h⟩
 | k + 1 => by
  obtain ⟨ih0, ih1⟩ := tlex_clock.mono_l k
  refine ⟨?_, ?_⟩
  ·intro y0 y1
   unfold tlex_clock.j0
   repeat' first
   | (with_reducible exact ih0 _ _)
   | (with_reducible exact ih1 _ _)
   | (with_reducible exact LeO.refl _)
   | (with_reducible exact LeO.none _)
   | (with_reducible refine LeO.ite ?_ ?_)
   | (with_reducible refine LeO.bind ?_ (fun _ => ?_))
   | exact ih0 _ _
   | exact ih1 _ _
   | exact LeO.none _
   | refine LeO.ite ?_ ?_
   | refine LeO.bind ?_ (fun _ => ?_)
  ·intro y0 y1
   unfold tlex_clock.j1
   repeat' first
   | (with_reducible exact ih0 _ _)
   | (with_reducible exact ih1 _ _)
   | (with_reducible exact LeO.refl _)
   | (with_reducible exact LeO.none _)
   | (with_reducible refine LeO.ite ?_ ?_)
   | (with_reducible refine LeO.bind ?_ (fun _ => ?_))
   | exact ih0 _ _
   | exact ih1 _ _
   | exact LeO.none _
   | refine LeO.ite ?_ ?_
   | refine LeO.bind ?_ (fun _ => ?_)

theorem tlex_clock.mono : ∀ a0 k, LeO (tlex_clock.f k a0) (tlex_clock.f (k + 1) a0) := by
 intro a0 k
 obtain ⟨ih0, ih1⟩ := tlex_clock.mono_l k
 unfold tlex_clock.f
 repeat' first
   | (with_reducible exact ih0 _ _)
   | (with_reducible exact ih1 _ _)
   | (with_reducible exact LeO.refl _)
   | (with_reducible exact LeO.none _)
   | (with_reducible refine LeO.ite ?_ ?_)
   | (with_reducible refine LeO.bind ?_ (fun _ => ?_))
   | exact ih0 _ _
   | exact ih1 _ _
   | exact LeO.none _
   | refine LeO.ite ?_ ?_
   | refine LeO.bind ?_ (fun _ => ?_)

def tlex_clock.T3 : Bool × List (List Nat × List Nat) := (true, [([], []), ([0], [0]), ([1], [1]), ([], []), ([3], [3]), ([4, 2], [4]), ([], []), ([6], [6]), ([7, 5], [7]), ([2, 8, 0, 1, 2], [2]), ([5, 9, 0, 1, 2, 3, 4, 5, 9], [5]), ([8, 10, 0, 1, 2, 3, 4, 5, 6, 7, 8, 9, 10], [8])])

def tlex_clock.B3 : List Nat := [0, 1, 3, 0, 8, 31, 0, 64, 255, 511, 1023, 2047]

theorem tlex_clock.tab3 : rtab .any (opsOf Tryz.f44 3) = tlex_clock.T3 := by kernel_rfl

theorem tlex_clock.bits3 : waitsOk tlex_clock.T3.2 tlex_clock.B3 = true := by kernel_rfl

set_option maxHeartbeats 8000000 in
set_option maxRecDepth 100000 in
theorem tlex_clock.calls (k : Nat) (a0 : ByteArray) (r : Int) (w : World) (h : tlex_clock.f k a0 = some r) :
  Calls Tryz.prog 44 #[.string a0] w fun e w' => e = .returned (.int .i64 r) ∧ Below w.heap.size w w' := by
 have HB := Aside0.mk (Below.refl w.heap.size w)
 have H : (if (a0.size : Int) < 8 then (tlex_clock.j0 k a0 true) else (if 2 < (a0.size : Int) then (if (bt a0 2) = 58 then (if 5 < (a0.size : Int) then (tlex_clock.j0 k a0 ((bt a0 5) != 58)) else (none)) else (tlex_clock.j0 k a0 true)) else (none))) = some r := h
 clear h
 have HC2 := Aside0.mk H
 clear H
 go_enter Tryz.func44, Tryz.ntmps44
 go_upto_region 1 with (fail)
 go_cut [20] (fun v20 wc => ∃ (kq : Nat) (x20_1 : Bool), v20 = .bool x20_1 ∧ Aside0 (tlex_clock.j0 kq a0 x20_1 = some r) ∧ Aside0 (kq ≤ k) ∧ Aside0 (Below w.heap.size w wc))
 case first =>
  have H := HC2.out
  clear HC2
  by_cases c3 : (a0.size : Int) < 8
  ·rw [if_pos c3] at H
   have c3b0 : decide ((a0.size : Int) < 8) = true := decide_eq_true c3
   have c3b1 : decide (a0.size < 8) = true := decide_eq_true (by omega)
   clear c3
   (first | rw [c3b0] | (simp only [i64_w, i32_w]; rw [c3b0]) | skip)
   have H' := Aside0.mk H
   clear H
   go_wp2
   go_meet
   case rel => exact ⟨_, (true), (by first | rfl | (simp; done) | (simp [*]; done)), H', ⟨by first | omega | exact Nat.le_refl _⟩, ⟨by repeat (first | (with_reducible first | exact HB.out | apply below_alloc | apply pw_below_drewN | apply below_drew1) | exact HB.out)⟩⟩
  ·rw [if_neg c3] at H
   have c3b0 : decide ((a0.size : Int) < 8) = false := decide_eq_false c3
   have c3b1 : decide (a0.size < 8) = false := decide_eq_false (by omega)
   clear c3
   (first | rw [c3b0] | (simp only [i64_w, i32_w]; rw [c3b0]) | skip)
   by_cases c4 : 2 < (a0.size : Int)
   ·rw [if_pos c4] at H
    have c4b0 : decide (2 < (a0.size : Int)) = true := decide_eq_true c4
    have c4b1 : decide (2 < a0.size) = true := decide_eq_true (by omega)
    clear c4
    by_cases c6 : (bt a0 2) = 58
    ·rw [if_pos c6] at H
     have c6b0 : ((bt a0 2) == 58) = true := beq_iff_eq.mpr c6
     have c6b1 : ((bt a0 2) != 58) = false := bne_eq_false_iff_eq.mpr c6
     clear c6
     by_cases c7 : 5 < (a0.size : Int)
     ·rw [if_pos c7] at H
      have c7b0 : decide (5 < (a0.size : Int)) = true := decide_eq_true c7
      have c7b1 : decide (5 < a0.size) = true := decide_eq_true (by omega)
      clear c7
      have H' := Aside0.mk H
      clear H
      have p5 : 0 ≤ (2 : Int) := (by omega)
      have q5 : 2 < a0.size := (by have : (2 : Int) < (a0.size : Int) := of_decide_eq_true (by first | (with_reducible assumption) | assumption); omega)
      have hx5 : ∀ h : 2 < a0.size, ((a0[2]'h).toNat : Int) = bt a0 2 := bt_at a0 2
      clear p5
      have qi5 : (2 < (a0.size : Int)) = True := eq_true (of_decide_eq_true (by first | (with_reducible assumption) | assumption))
      replace q5 := eq_true q5
      have p8 : 0 ≤ (5 : Int) := (by omega)
      have q8 : 5 < a0.size := (by have : (5 : Int) < (a0.size : Int) := of_decide_eq_true (by first | (with_reducible assumption) | assumption); omega)
      have hx8 : ∀ h : 5 < a0.size, ((a0[5]'h).toNat : Int) = bt a0 5 := bt_at a0 5
      clear p8
      have qi8 : (5 < (a0.size : Int)) = True := eq_true (of_decide_eq_true (by first | (with_reducible assumption) | assumption))
      replace q8 := eq_true q8
      go_wp2
      go_meet
      case rel => exact ⟨_, (((bt a0 5) != 58)), (by first | rfl | (simp; done) | (simp [*]; done)), H', ⟨by first | omega | exact Nat.le_refl _⟩, ⟨by repeat (first | (with_reducible first | exact HB.out | apply below_alloc | apply pw_below_drewN | apply below_drew1) | exact HB.out)⟩⟩
     ·rw [if_neg c7] at H
      exact absurd H (by simp)
    ·rw [if_neg c6] at H
     have c6b0 : ((bt a0 2) == 58) = false := beq_eq_false_iff_ne.mpr c6
     have c6b1 : ((bt a0 2) != 58) = true := bne_iff_ne.mpr c6
     have H' := Aside0.mk H
     clear H
     have p5 : 0 ≤ (2 : Int) := (by omega)
     have q5 : 2 < a0.size := (by have : (2 : Int) < (a0.size : Int) := of_decide_eq_true (by first | (with_reducible assumption) | assumption); omega)
     have hx5 : ∀ h : 2 < a0.size, ((a0[2]'h).toNat : Int) = bt a0 2 := bt_at a0 2
     clear p5
     have qi5 : (2 < (a0.size : Int)) = True := eq_true (of_decide_eq_true (by first | (with_reducible assumption) | assumption))
     replace q5 := eq_true q5
     go_wp2
     go_meet
     case rel => exact ⟨_, (true), (by first | rfl | (simp; done) | (simp [*]; done)), H', ⟨by first | omega | exact Nat.le_refl _⟩, ⟨by repeat (first | (with_reducible first | exact HB.out | apply below_alloc | apply pw_below_drewN | apply below_drew1) | exact HB.out)⟩⟩
   ·rw [if_neg c4] at H
    exact absurd H (by simp)
 case rest =>
  clear HC2
  try clear p2
  try clear c3
  try clear c3b0
  try clear c3b1
  try clear c4
  try clear c4b0
  try clear c4b1
  try clear p5
  try clear q5
  try clear hx5
  try clear qi5
  try clear c6
  try clear c6b0
  try clear c6b1
  try clear c7
  try clear c7b0
  try clear c7b1
  try clear p8
  try clear q8
  try clear hx8
  try clear qi8
  try clear p5
  try clear p8
  try clear q5
  try clear q8
  obtain ⟨kq, x20_1, rfl, HA, HJ1, HB⟩ := hcut
  cases kq with
  | zero => exact absurd HA.out (by simp [tlex_clock.j0])
  | succ kj1 =>
   have H := HA.out
   clear HA
   simp only [tlex_clock.j0] at H
   by_cases c9 : x20_1 = true
   ·subst c9
    have H1 : (some 0) = some r := by rw [if_pos rfl] at H; exact H
    clear H
    have H := H1
    clear H1
    obtain rfl := Option.some.inj H
    go_wp2
    go_ret
    exact ⟨by first | rfl | (simp [errW_none, errW_some] <;> rfl) | (simp [*, errW_none, errW_some] <;> rfl), by repeat (first | (with_reducible first | exact HB.out | apply below_alloc | apply pw_below_drewN | apply below_drew1) | exact HB.out)⟩
   ·replace c9 := Bool.eq_false_iff.mpr c9
    subst c9
    have H1 : (if 0 ≤ 2 then (if 2 ≤ (a0.size : Int) then ((tlex_number.f (a0.extract 0 2)).bind fun t152 => (if 3 ≤ 5 then (if 5 ≤ (a0.size : Int) then ((tlex_number.f (a0.extract 3 5)).bind fun t153 => (if 6 ≤ 8 then (if 8 ≤ (a0.size : Int) then ((tlex_number.f (a0.extract 6 8)).bind fun t154 => (if t152 < 0 then (tlex_clock.j1 kj1 a0 true) else (if t152 > 23 then (tlex_clock.j1 kj1 a0 true) else (if t153 < 0 then (tlex_clock.j1 kj1 a0 true) else (if t153 > 59 then (tlex_clock.j1 kj1 a0 true) else (if t154 < 0 then (tlex_clock.j1 kj1 a0 true) else (tlex_clock.j1 kj1 a0 (decide (t154 > 60))))))))) else (none)) else (none))) else (none)) else (none))) else (none)) else (none)) = some r := by rw [if_neg (show ¬ (false = true) by decide)] at H; exact H
    clear H
    have H := H1
    clear H1
    by_cases c10 : 0 ≤ 2
    ·rw [if_pos c10] at H
     have c10b0 := eq_true c10
     have c10b1 : decide (0 ≤ 2) = true := decide_eq_true c10
     clear c10
     by_cases c11 : 2 ≤ (a0.size : Int)
     ·rw [if_pos c11] at H
      have c11b0 := eq_true c11
      have c11b1 : decide (2 ≤ (a0.size : Int)) = true := decide_eq_true c11
      clear c11
      replace H := Option.bind_eq_some_iff.mp H
      obtain ⟨t152, A120, H⟩ := H
      replace H : (if 3 ≤ 5 then (if 5 ≤ (a0.size : Int) then ((tlex_number.f (a0.extract 3 5)).bind fun t153 => (if 6 ≤ 8 then (if 8 ≤ (a0.size : Int) then ((tlex_number.f (a0.extract 6 8)).bind fun t154 => (if t152 < 0 then (tlex_clock.j1 kj1 a0 true) else (if t152 > 23 then (tlex_clock.j1 kj1 a0 true) else (if t153 < 0 then (tlex_clock.j1 kj1 a0 true) else (if t153 > 59 then (tlex_clock.j1 kj1 a0 true) else (if t154 < 0 then (tlex_clock.j1 kj1 a0 true) else (tlex_clock.j1 kj1 a0 (decide (t154 > 60))))))))) else (none)) else (none))) else (none)) else (none)) = some r := H
      have A12 := Aside0.mk A120
      clear A120
      by_cases c13 : 3 ≤ 5
      ·rw [if_pos c13] at H
       have c13b0 := eq_true c13
       have c13b1 : decide (3 ≤ 5) = true := decide_eq_true c13
       clear c13
       by_cases c14 : 5 ≤ (a0.size : Int)
       ·rw [if_pos c14] at H
        have c14b0 := eq_true c14
        have c14b1 : decide (5 ≤ (a0.size : Int)) = true := decide_eq_true c14
        clear c14
        replace H := Option.bind_eq_some_iff.mp H
        obtain ⟨t153, A150, H⟩ := H
        replace H : (if 6 ≤ 8 then (if 8 ≤ (a0.size : Int) then ((tlex_number.f (a0.extract 6 8)).bind fun t154 => (if t152 < 0 then (tlex_clock.j1 kj1 a0 true) else (if t152 > 23 then (tlex_clock.j1 kj1 a0 true) else (if t153 < 0 then (tlex_clock.j1 kj1 a0 true) else (if t153 > 59 then (tlex_clock.j1 kj1 a0 true) else (if t154 < 0 then (tlex_clock.j1 kj1 a0 true) else (tlex_clock.j1 kj1 a0 (decide (t154 > 60))))))))) else (none)) else (none)) = some r := H
        have A15 := Aside0.mk A150
        clear A150
        by_cases c16 : 6 ≤ 8
        ·rw [if_pos c16] at H
         have c16b0 := eq_true c16
         have c16b1 : decide (6 ≤ 8) = true := decide_eq_true c16
         clear c16
         by_cases c17 : 8 ≤ (a0.size : Int)
         ·rw [if_pos c17] at H
          have c17b0 := eq_true c17
          have c17b1 : decide (8 ≤ (a0.size : Int)) = true := decide_eq_true c17
          clear c17
          replace H := Option.bind_eq_some_iff.mp H
          obtain ⟨t154, A180, H⟩ := H
          replace H : (if t152 < 0 then (tlex_clock.j1 kj1 a0 true) else (if t152 > 23 then (tlex_clock.j1 kj1 a0 true) else (if t153 < 0 then (tlex_clock.j1 kj1 a0 true) else (if t153 > 59 then (tlex_clock.j1 kj1 a0 true) else (if t154 < 0 then (tlex_clock.j1 kj1 a0 true) else (tlex_clock.j1 kj1 a0 (decide (t154 > 60)))))))) = some r := H
          have A18 := Aside0.mk A180
          clear A180
          have HC19 := Aside0.mk H
          clear H
          try go_wp2
          have n0_ := Aside0.mk (below_drew1 HB.out)
          clear HB
          have HB := n0_
          clear n0_
          refine start_ (n := 12) (S := fun w' => True) (ds := []) #[false, false, false, false, false, false, false, false, false, false, false, false] (by kernel_rfl) rfl rfl trivial (fun hHeld => ?_); refine with_tabW tlex_clock.tab3 tlex_clock.bits3 (fun HT_ HW_ => ?_)
          generalize wc.drew = w20 at HB hHeld ⊢
          refine pure_ (i := 0) (N := some 21) (v := ?_) (a' := ?_) #[true, false, false, false, false, false, false, false, false, false, false, false] rfl rfl (any_of HT_.out (by kernel_rfl)) (fun _ _ _ h => h) (Or.inl ⟨by rfl, ?_⟩) ?_ ?_
          rotate_left
          ·intro w'
           go_simp
           with_reducible rfl
          rotate_left
          ·simp only [Act.put, List.setIfInBounds_toArray, List.set_cons_zero, List.set_cons_succ, i64_w, i32_w]
           rfl
          refine pure_ (i := 1) (N := some 22) (v := ?_) (a' := ?_) #[true, true, false, false, false, false, false, false, false, false, false, false] rfl rfl (any_of HT_.out (by kernel_rfl)) (fun _ _ _ h => h) (Or.inl ⟨by rfl, ?_⟩) ?_ ?_
          rotate_left
          ·intro w'
           go_simp
           with_reducible rfl
          rotate_left
          ·simp only [Act.put, List.setIfInBounds_toArray, List.set_cons_zero, List.set_cons_succ, i64_w, i32_w]
           rfl
          refine pure_ (i := 3) (N := some 24) (v := ?_) (a' := ?_) #[true, true, false, true, false, false, false, false, false, false, false, false] rfl rfl (any_of HT_.out (by kernel_rfl)) (fun _ _ _ h => h) (Or.inl ⟨by rfl, ?_⟩) ?_ ?_
          rotate_left
          ·intro w'
           go_simp
           with_reducible rfl
          rotate_left
          ·simp only [Act.put, List.setIfInBounds_toArray, List.set_cons_zero, List.set_cons_succ, i64_w, i32_w]
           rfl
          refine pure_ (i := 4) (N := some 25) (v := ?_) (a' := ?_) #[true, true, false, true, true, false, false, false, false, false, false, false] rfl rfl (any_of HT_.out (by kernel_rfl)) (fun _ _ _ h => h) (Or.inl ⟨by rfl, ?_⟩) ?_ ?_
          rotate_left
          ·intro w'
           go_simp
           with_reducible rfl
          rotate_left
          ·simp only [Act.put, List.setIfInBounds_toArray, List.set_cons_zero, List.set_cons_succ, i64_w, i32_w]
           rfl
          refine pure_ (i := 6) (N := some 27) (v := ?_) (a' := ?_) #[true, true, false, true, true, false, true, false, false, false, false, false] rfl rfl (any_of HT_.out (by kernel_rfl)) (fun _ _ _ h => h) (Or.inl ⟨by rfl, ?_⟩) ?_ ?_
          rotate_left
          ·intro w'
           go_simp
           with_reducible rfl
          rotate_left
          ·simp only [Act.put, List.setIfInBounds_toArray, List.set_cons_zero, List.set_cons_succ, i64_w, i32_w]
           rfl
          refine pure_ (i := 7) (N := some 28) (v := ?_) (a' := ?_) #[true, true, false, true, true, false, true, true, false, false, false, false] rfl rfl (any_of HT_.out (by kernel_rfl)) (fun _ _ _ h => h) (Or.inl ⟨by rfl, ?_⟩) ?_ ?_
          rotate_left
          ·intro w'
           go_simp
           with_reducible rfl
          rotate_left
          ·simp only [Act.put, List.setIfInBounds_toArray, List.set_cons_zero, List.set_cons_succ, i64_w, i32_w]
           rfl
          refine one_ (i := 2) (N := some 23) #[true, true, true, true, true, false, true, true, false, false, false, false] rfl rfl (one_of HT_.out (by kernel_rfl)) (by decide) (fun K hK => ?_)
          refine goes_ Tryz.func71 (by kernel_rfl) rfl #[.string (a0.extract 0 2)] (by rfl) rfl rfl (by (try simp only [List.map_toArray, List.map_cons, List.map_nil]); first | done | rfl | (simp only [List.length_drop, List.length_take]; rfl)) ?_
          with_reducible refine (tlex_number.calls (a0.extract 0 2) t152 _ A12.out).mono ?_
          rintro e w21 ⟨rfl, hb⟩
          refine ⟨_, rfl, ?_⟩
          have n0_ := Aside0.mk (below_step (by repeat (first | (with_reducible first | exact HB.out | apply below_alloc | apply pw_below_drewN | apply below_drew1) | exact HB.out)) hb)
          clear HB
          have HB := n0_
          clear n0_
          (try clear hb)
          (try clear hb2)
          (try clear hk)
          (try clear hi)
          refine hK.out _ _ trivial (fun hHeld => ?_)
          clear hK K
          refine norm_ (a' := ?_) ?_ ?_
          rotate_left
          ·show Act.put _ (some 23) _ = _
           simp only [Act.put, List.setIfInBounds_toArray, List.set_cons_zero, List.set_cons_succ, i64_w, i32_w]
           rfl
          refine one_ (i := 5) (N := some 26) #[true, true, true, true, true, true, true, true, false, false, false, false] rfl rfl (one_of HT_.out (by kernel_rfl)) (by decide) (fun K hK => ?_)
          refine goes_ Tryz.func71 (by kernel_rfl) rfl #[.string (a0.extract 3 5)] (by rfl) rfl rfl (by (try simp only [List.map_toArray, List.map_cons, List.map_nil]); first | done | rfl | (simp only [List.length_drop, List.length_take]; rfl)) ?_
          with_reducible refine (tlex_number.calls (a0.extract 3 5) t153 _ A15.out).mono ?_
          rintro e w22 ⟨rfl, hb⟩
          refine ⟨_, rfl, ?_⟩
          have n0_ := Aside0.mk (below_step (by repeat (first | (with_reducible first | exact HB.out | apply below_alloc | apply pw_below_drewN | apply below_drew1) | exact HB.out)) hb)
          clear HB
          have HB := n0_
          clear n0_
          (try clear hb)
          (try clear hb2)
          (try clear hk)
          (try clear hi)
          refine hK.out _ _ trivial (fun hHeld => ?_)
          clear hK K
          refine norm_ (a' := ?_) ?_ ?_
          rotate_left
          ·show Act.put _ (some 26) _ = _
           simp only [Act.put, List.setIfInBounds_toArray, List.set_cons_zero, List.set_cons_succ, i64_w, i32_w]
           rfl
          refine one_ (i := 8) (N := some 29) #[true, true, true, true, true, true, true, true, true, false, false, false] rfl rfl (one_of HT_.out (by kernel_rfl)) (by decide) (fun K hK => ?_)
          refine goes_ Tryz.func71 (by kernel_rfl) rfl #[.string (a0.extract 6 8)] (by rfl) rfl rfl (by (try simp only [List.map_toArray, List.map_cons, List.map_nil]); first | done | rfl | (simp only [List.length_drop, List.length_take]; rfl)) ?_
          with_reducible refine (tlex_number.calls (a0.extract 6 8) t154 _ A18.out).mono ?_
          rintro e w23 ⟨rfl, hb⟩
          refine ⟨_, rfl, ?_⟩
          have n0_ := Aside0.mk (below_step (by repeat (first | (with_reducible first | exact HB.out | apply below_alloc | apply pw_below_drewN | apply below_drew1) | exact HB.out)) hb)
          clear HB
          have HB := n0_
          clear n0_
          (try clear hb)
          (try clear hb2)
          (try clear hk)
          (try clear hi)
          refine hK.out _ _ trivial (fun hHeld => ?_)
          clear hK K
          refine norm_ (a' := ?_) ?_ ?_
          rotate_left
          ·show Act.put _ (some 29) _ = _
           simp only [Act.put, List.setIfInBounds_toArray, List.set_cons_zero, List.set_cons_succ, i64_w, i32_w]
           rfl
          refine pure_ (i := 9) (N := some 3) (v := ?_) (a' := ?_) #[true, true, true, true, true, true, true, true, true, true, false, false] rfl rfl (any_of HT_.out (by kernel_rfl)) (fun _ _ _ h => h) (Or.inl ⟨by rfl, ?_⟩) ?_ ?_
          rotate_left
          ·intro w'
           go_simp
           with_reducible rfl
          rotate_left
          ·simp only [Act.put, List.setIfInBounds_toArray, List.set_cons_zero, List.set_cons_succ, i64_w, i32_w]
           rfl
          refine pure_ (i := 10) (N := some 4) (v := ?_) (a' := ?_) #[true, true, true, true, true, true, true, true, true, true, true, false] rfl rfl (any_of HT_.out (by kernel_rfl)) (fun _ _ _ h => h) (Or.inl ⟨by rfl, ?_⟩) ?_ ?_
          rotate_left
          ·intro w'
           go_simp
           with_reducible rfl
          rotate_left
          ·simp only [Act.put, List.setIfInBounds_toArray, List.set_cons_zero, List.set_cons_succ, i64_w, i32_w]
           rfl
          refine pure_ (i := 11) (N := some 5) (v := ?_) (a' := ?_) #[true, true, true, true, true, true, true, true, true, true, true, true] rfl rfl (any_of HT_.out (by kernel_rfl)) (fun _ _ _ h => h) (Or.inl ⟨by rfl, ?_⟩) ?_ ?_
          rotate_left
          ·intro w'
           go_simp
           with_reducible rfl
          rotate_left
          ·simp only [Act.put, List.setIfInBounds_toArray, List.set_cons_zero, List.set_cons_succ, i64_w, i32_w]
           rfl
          refine done_ (done_of HT_.out (by kernel_rfl)) ?_
          go_upto_region 4 with (fail)
          go_cut [51] (fun v51 wc => ∃ (kq : Nat) (x51_18 : Bool), v51 = .bool x51_18 ∧ Aside0 (tlex_clock.j1 kq a0 x51_18 = some r) ∧ Aside0 (kq ≤ kj1) ∧ Aside0 (Below w.heap.size w wc))
          case first =>
           have H := HC19.out
           clear HC19
           by_cases c24 : t152 < 0
           ·rw [if_pos c24] at H
            have c24b0 : decide (t152 < 0) = true := decide_eq_true c24
            clear c24
            (first | rw [c24b0] | (simp only [i64_w, i32_w]; rw [c24b0]) | skip)
            have H' := Aside0.mk H
            clear H
            go_wp2
            go_meet
            case rel => exact ⟨_, (true), (by first | rfl | (simp; done) | (simp [*]; done)), H', ⟨by have := HJ1.out; first | omega | exact Nat.le_refl _⟩, ⟨by repeat (first | (with_reducible first | exact HB.out | apply below_alloc | apply pw_below_drewN | apply below_drew1) | exact HB.out)⟩⟩
           ·rw [if_neg c24] at H
            have c24b0 : decide (t152 < 0) = false := decide_eq_false c24
            clear c24
            (first | rw [c24b0] | (simp only [i64_w, i32_w]; rw [c24b0]) | skip)
            by_cases c25 : t152 > 23
            ·rw [if_pos c25] at H
             have c25b0 : decide (23 < t152) = true := decide_eq_true c25
             clear c25
             have H' := Aside0.mk H
             clear H
             go_wp2
             go_meet
             case rel => exact ⟨_, (true), (by first | rfl | (simp; done) | (simp [*]; done)), H', ⟨by have := HJ1.out; first | omega | exact Nat.le_refl _⟩, ⟨by repeat (first | (with_reducible first | exact HB.out | apply below_alloc | apply pw_below_drewN | apply below_drew1) | exact HB.out)⟩⟩
            ·rw [if_neg c25] at H
             have c25b0 : decide (23 < t152) = false := decide_eq_false c25
             clear c25
             by_cases c26 : t153 < 0
             ·rw [if_pos c26] at H
              have c26b0 : decide (t153 < 0) = true := decide_eq_true c26
              clear c26
              have H' := Aside0.mk H
              clear H
              go_wp2
              go_meet
              case rel => exact ⟨_, (true), (by first | rfl | (simp; done) | (simp [*]; done)), H', ⟨by have := HJ1.out; first | omega | exact Nat.le_refl _⟩, ⟨by repeat (first | (with_reducible first | exact HB.out | apply below_alloc | apply pw_below_drewN | apply below_drew1) | exact HB.out)⟩⟩
             ·rw [if_neg c26] at H
              have c26b0 : decide (t153 < 0) = false := decide_eq_false c26
              clear c26
              by_cases c27 : t153 > 59
              ·rw [if_pos c27] at H
               have c27b0 : decide (59 < t153) = true := decide_eq_true c27
               clear c27
               have H' := Aside0.mk H
               clear H
               go_wp2
               go_meet
               case rel => exact ⟨_, (true), (by first | rfl | (simp; done) | (simp [*]; done)), H', ⟨by have := HJ1.out; first | omega | exact Nat.le_refl _⟩, ⟨by repeat (first | (with_reducible first | exact HB.out | apply below_alloc | apply pw_below_drewN | apply below_drew1) | exact HB.out)⟩⟩
              ·rw [if_neg c27] at H
               have c27b0 : decide (59 < t153) = false := decide_eq_false c27
               clear c27
               by_cases c28 : t154 < 0
               ·rw [if_pos c28] at H
                have c28b0 : decide (t154 < 0) = true := decide_eq_true c28
                clear c28
                have H' := Aside0.mk H
                clear H
                go_wp2
                go_meet
                case rel => exact ⟨_, (true), (by first | rfl | (simp; done) | (simp [*]; done)), H', ⟨by have := HJ1.out; first | omega | exact Nat.le_refl _⟩, ⟨by repeat (first | (with_reducible first | exact HB.out | apply below_alloc | apply pw_below_drewN | apply below_drew1) | exact HB.out)⟩⟩
               ·rw [if_neg c28] at H
                have c28b0 : decide (t154 < 0) = false := decide_eq_false c28
                clear c28
                have H' := Aside0.mk H
                clear H
                go_wp2
                go_meet
                case rel => exact ⟨_, (decide (t154 > 60)), (by first | rfl | (simp; done) | (simp [*]; done)), H', ⟨by have := HJ1.out; first | omega | exact Nat.le_refl _⟩, ⟨by repeat (first | (with_reducible first | exact HB.out | apply below_alloc | apply pw_below_drewN | apply below_drew1) | exact HB.out)⟩⟩
          case rest =>
           clear HC19
           try clear c1
           try clear c2
           try clear p2
           try clear c3
           try clear c3b0
           try clear c3b1
           try clear c4
           try clear c4b0
           try clear c4b1
           try clear p5
           try clear q5
           try clear hx5
           try clear qi5
           try clear c6
           try clear c6b0
           try clear c6b1
           try clear c7
           try clear c7b0
           try clear c7b1
           try clear p8
           try clear q8
           try clear hx8
           try clear qi8
           try clear c9
           try clear c10
           try clear c10b0
           try clear c10b1
           try clear c11
           try clear c11b0
           try clear c11b1
           try clear c13
           try clear c13b0
           try clear c13b1
           try clear c14
           try clear c14b0
           try clear c14b1
           try clear c16
           try clear c16b0
           try clear c16b1
           try clear c17
           try clear c17b0
           try clear c17b1
           try clear c24
           try clear c24b0
           try clear c25
           try clear c25b0
           try clear c26
           try clear c26b0
           try clear c27
           try clear c27b0
           try clear c28
           try clear c28b0
           try clear p2
           try clear p5
           try clear p8
           try clear q5
           try clear q8
           obtain ⟨kq, x51_18, rfl, HA, HJ18, HB⟩ := hcut
           cases kq with
           | zero => exact absurd HA.out (by simp [tlex_clock.j1])
           | succ kj18 =>
            have H := HA.out
            clear HA
            simp only [tlex_clock.j1] at H
            by_cases c29 : x51_18 = true
            ·subst c29
             have H1 : (some 0) = some r := by rw [if_pos rfl] at H; exact H
             clear H
             have H := H1
             clear H1
             obtain rfl := Option.some.inj H
             go_wp2
             go_ret
             exact ⟨by first | rfl | (simp [errW_none, errW_some] <;> rfl) | (simp [*, errW_none, errW_some] <;> rfl), by repeat (first | (with_reducible first | exact HB.out | apply below_alloc | apply pw_below_drewN | apply below_drew1) | exact HB.out)⟩
            ·replace c29 := Bool.eq_false_iff.mpr c29
             subst c29
             have H1 : (if 8 ≤ (a0.size : Int) then ((strings_HasPrefix.f (a0.extract 8 a0.size) (⟨#[46]⟩ : ByteArray)).bind fun t155 => (if t155 = true then (if 9 ≤ (a0.size : Int) then ((strings_TrimLeft.f (a0.extract 9 a0.size) (⟨#[48, 49, 50, 51, 52, 53, 54, 55, 56, 57]⟩ : ByteArray)).bind fun t156 => (if (wrap64 (((a0.extract 9 a0.size).size : Int) - (t156.size : Int))) < 1 then (some 0) else (if (wrap64 (((a0.extract 9 a0.size).size : Int) - (t156.size : Int))) > 9 then (some 0) else (some (wrap64 (9 + (wrap64 (((a0.extract 9 a0.size).size : Int) - (t156.size : Int))))))))) else (none)) else (some 8))) else (none)) = some r := by rw [if_neg (show ¬ (false = true) by decide)] at H; exact H
             clear H
             have H := H1
             clear H1
             by_cases c30 : 8 ≤ (a0.size : Int)
             ·rw [if_pos c30] at H
              have c30b0 := eq_true c30
              have c30b1 : decide (8 ≤ (a0.size : Int)) = true := decide_eq_true c30
              clear c30
              replace H := Option.bind_eq_some_iff.mp H
              obtain ⟨t155, A310, H⟩ := H
              replace H : (if t155 = true then (if 9 ≤ (a0.size : Int) then ((strings_TrimLeft.f (a0.extract 9 a0.size) (⟨#[48, 49, 50, 51, 52, 53, 54, 55, 56, 57]⟩ : ByteArray)).bind fun t156 => (if (wrap64 (((a0.extract 9 a0.size).size : Int) - (t156.size : Int))) < 1 then (some 0) else (if (wrap64 (((a0.extract 9 a0.size).size : Int) - (t156.size : Int))) > 9 then (some 0) else (some (wrap64 (9 + (wrap64 (((a0.extract 9 a0.size).size : Int) - (t156.size : Int))))))))) else (none)) else (some 8)) = some r := H
              have A31 := Aside0.mk A310
              clear A310
              by_cases c32 : t155 = true
              ·subst c32
               have H1 : (if 9 ≤ (a0.size : Int) then ((strings_TrimLeft.f (a0.extract 9 a0.size) (⟨#[48, 49, 50, 51, 52, 53, 54, 55, 56, 57]⟩ : ByteArray)).bind fun t156 => (if (wrap64 (((a0.extract 9 a0.size).size : Int) - (t156.size : Int))) < 1 then (some 0) else (if (wrap64 (((a0.extract 9 a0.size).size : Int) - (t156.size : Int))) > 9 then (some 0) else (some (wrap64 (9 + (wrap64 (((a0.extract 9 a0.size).size : Int) - (t156.size : Int))))))))) else (none)) = some r := by rw [if_pos rfl] at H; exact H
               clear H
               have H := H1
               clear H1
               by_cases c33 : 9 ≤ (a0.size : Int)
               ·rw [if_pos c33] at H
                have c33b0 := eq_true c33
                have c33b1 : decide (9 ≤ (a0.size : Int)) = true := decide_eq_true c33
                clear c33
                replace H := Option.bind_eq_some_iff.mp H
                obtain ⟨t156, A340, H⟩ := H
                replace H : (if (wrap64 (((a0.extract 9 a0.size).size : Int) - (t156.size : Int))) < 1 then (some 0) else (if (wrap64 (((a0.extract 9 a0.size).size : Int) - (t156.size : Int))) > 9 then (some 0) else (some (wrap64 (9 + (wrap64 (((a0.extract 9 a0.size).size : Int) - (t156.size : Int)))))))) = some r := H
                have A34 := Aside0.mk A340
                clear A340
                have hsz9 : ((a0.extract 9 a0.size).size : Int) = ((a0.size - 9 : Nat) : Int) := by rw [ByteArray.size_extract]; congr 1; omega
                rw [hsz9] at H
                clear hsz9
                by_cases c35 : (wrap64 (((a0.size - 9 : Nat) : Int) - (t156.size : Int))) < 1
                ·rw [if_pos c35] at H
                 have c35b0 : decide ((wrap64 (((a0.size - 9 : Nat) : Int) - (t156.size : Int))) < 1) = true := decide_eq_true c35
                 clear c35
                 obtain rfl := Option.some.inj H
                 go_wp2_with (first | ((with_reducible refine gate_callee (f := 31) rfl ?_); refine goesL_ (some 54) rfl rfl Tryz.func31 (by kernel_rfl) rfl #[.string (a0.extract 8 a0.size), .string (⟨#[46]⟩ : ByteArray)] rfl (by (try simp only [List.map_toArray, List.map_cons, List.map_nil]); first | done | rfl | (simp only [List.length_drop, List.length_take]; rfl)) ?_; (with_reducible refine (strings_HasPrefix.calls (a0.extract 8 a0.size) (⟨#[46]⟩ : ByteArray) true _ A31.out).mono ?_); rintro e w' ⟨rfl, ⟨nd, rfl⟩⟩; refine ⟨_, rfl, ?_⟩) | ((with_reducible refine gate_callee (f := 73) rfl ?_); refine goesL_ (some 61) rfl rfl Tryz.func73 (by kernel_rfl) rfl #[.string (a0.extract 9 a0.size), .string (⟨#[48, 49, 50, 51, 52, 53, 54, 55, 56, 57]⟩ : ByteArray)] rfl (by (try simp only [List.map_toArray, List.map_cons, List.map_nil]); first | done | rfl | (simp only [List.length_drop, List.length_take]; rfl)) ?_; (with_reducible refine (strings_TrimLeft.calls (a0.extract 9 a0.size) (⟨#[48, 49, 50, 51, 52, 53, 54, 55, 56, 57]⟩ : ByteArray) t156 _ A34.out).mono ?_); rintro e w36 ⟨rfl, hb⟩; refine ⟨_, rfl, ?_⟩; have n0_ := Aside0.mk (below_step (by repeat (first | (with_reducible first | exact HB.out | apply below_alloc | apply pw_below_drewN | apply below_drew1) | exact HB.out)) hb); clear HB; have HB := n0_; clear n0_; (try clear hb); (try clear hb2); (try clear hk); (try clear hi)))
                 go_ret
                 exact ⟨by first | rfl | (simp [errW_none, errW_some] <;> rfl) | (simp [*, errW_none, errW_some] <;> rfl), by repeat (first | (with_reducible first | exact HB.out | apply below_alloc | apply pw_below_drewN | apply below_drew1) | exact HB.out)⟩
                ·rw [if_neg c35] at H
                 have c35b0 : decide ((wrap64 (((a0.size - 9 : Nat) : Int) - (t156.size : Int))) < 1) = false := decide_eq_false c35
                 clear c35
                 by_cases c37 : (wrap64 (((a0.size - 9 : Nat) : Int) - (t156.size : Int))) > 9
                 ·rw [if_pos c37] at H
                  have c37b0 : decide (9 < (wrap64 (((a0.size - 9 : Nat) : Int) - (t156.size : Int)))) = true := decide_eq_true c37
                  clear c37
                  obtain rfl := Option.some.inj H
                  go_wp2_with (first | ((with_reducible refine gate_callee (f := 31) rfl ?_); refine goesL_ (some 54) rfl rfl Tryz.func31 (by kernel_rfl) rfl #[.string (a0.extract 8 a0.size), .string (⟨#[46]⟩ : ByteArray)] rfl (by (try simp only [List.map_toArray, List.map_cons, List.map_nil]); first | done | rfl | (simp only [List.length_drop, List.length_take]; rfl)) ?_; (with_reducible refine (strings_HasPrefix.calls (a0.extract 8 a0.size) (⟨#[46]⟩ : ByteArray) true _ A31.out).mono ?_); rintro e w' ⟨rfl, ⟨nd, rfl⟩⟩; refine ⟨_, rfl, ?_⟩) | ((with_reducible refine gate_callee (f := 73) rfl ?_); refine goesL_ (some 61) rfl rfl Tryz.func73 (by kernel_rfl) rfl #[.string (a0.extract 9 a0.size), .string (⟨#[48, 49, 50, 51, 52, 53, 54, 55, 56, 57]⟩ : ByteArray)] rfl (by (try simp only [List.map_toArray, List.map_cons, List.map_nil]); first | done | rfl | (simp only [List.length_drop, List.length_take]; rfl)) ?_; (with_reducible refine (strings_TrimLeft.calls (a0.extract 9 a0.size) (⟨#[48, 49, 50, 51, 52, 53, 54, 55, 56, 57]⟩ : ByteArray) t156 _ A34.out).mono ?_); rintro e w38 ⟨rfl, hb⟩; refine ⟨_, rfl, ?_⟩; have n0_ := Aside0.mk (below_step (by repeat (first | (with_reducible first | exact HB.out | apply below_alloc | apply pw_below_drewN | apply below_drew1) | exact HB.out)) hb); clear HB; have HB := n0_; clear n0_; (try clear hb); (try clear hb2); (try clear hk); (try clear hi)))
                  go_ret
                  exact ⟨by first | rfl | (simp [errW_none, errW_some] <;> rfl) | (simp [*, errW_none, errW_some] <;> rfl), by repeat (first | (with_reducible first | exact HB.out | apply below_alloc | apply pw_below_drewN | apply below_drew1) | exact HB.out)⟩
                 ·rw [if_neg c37] at H
                  have c37b0 : decide (9 < (wrap64 (((a0.size - 9 : Nat) : Int) - (t156.size : Int)))) = false := decide_eq_false c37
                  clear c37
                  obtain rfl := Option.some.inj H
                  go_wp2_with (first | ((with_reducible refine gate_callee (f := 31) rfl ?_); refine goesL_ (some 54) rfl rfl Tryz.func31 (by kernel_rfl) rfl #[.string (a0.extract 8 a0.size), .string (⟨#[46]⟩ : ByteArray)] rfl (by (try simp only [List.map_toArray, List.map_cons, List.map_nil]); first | done | rfl | (simp only [List.length_drop, List.length_take]; rfl)) ?_; (with_reducible refine (strings_HasPrefix.calls (a0.extract 8 a0.size) (⟨#[46]⟩ : ByteArray) true _ A31.out).mono ?_); rintro e w' ⟨rfl, ⟨nd, rfl⟩⟩; refine ⟨_, rfl, ?_⟩) | ((with_reducible refine gate_callee (f := 73) rfl ?_); refine goesL_ (some 61) rfl rfl Tryz.func73 (by kernel_rfl) rfl #[.string (a0.extract 9 a0.size), .string (⟨#[48, 49, 50, 51, 52, 53, 54, 55, 56, 57]⟩ : ByteArray)] rfl (by (try simp only [List.map_toArray, List.map_cons, List.map_nil]); first | done | rfl | (simp only [List.length_drop, List.length_take]; rfl)) ?_; (with_reducible refine (strings_TrimLeft.calls (a0.extract 9 a0.size) (⟨#[48, 49, 50, 51, 52, 53, 54, 55, 56, 57]⟩ : ByteArray) t156 _ A34.out).mono ?_); rintro e w39 ⟨rfl, hb⟩; refine ⟨_, rfl, ?_⟩; have n0_ := Aside0.mk (below_step (by repeat (first | (with_reducible first | exact HB.out | apply below_alloc | apply pw_below_drewN | apply below_drew1) | exact HB.out)) hb); clear HB; have HB := n0_; clear n0_; (try clear hb); (try clear hb2); (try clear hk); (try clear hi)))
                  go_ret
                  exact ⟨by first | rfl | (simp [errW_none, errW_some] <;> rfl) | (simp [*, errW_none, errW_some] <;> rfl), by repeat (first | (with_reducible first | exact HB.out | apply below_alloc | apply pw_below_drewN | apply below_drew1) | exact HB.out)⟩
               ·rw [if_neg c33] at H
                exact absurd H (by simp)
              ·replace c32 := Bool.eq_false_iff.mpr c32
               subst c32
               have H1 : (some 8) = some r := by rw [if_neg (show ¬ (false = true) by decide)] at H; exact H
               clear H
               have H := H1
               clear H1
               obtain rfl := Option.some.inj H
               go_wp2_with (first | ((with_reducible refine gate_callee (f := 31) rfl ?_); refine goesL_ (some 54) rfl rfl Tryz.func31 (by kernel_rfl) rfl #[.string (a0.extract 8 a0.size), .string (⟨#[46]⟩ : ByteArray)] rfl (by (try simp only [List.map_toArray, List.map_cons, List.map_nil]); first | done | rfl | (simp only [List.length_drop, List.length_take]; rfl)) ?_; (with_reducible refine (strings_HasPrefix.calls (a0.extract 8 a0.size) (⟨#[46]⟩ : ByteArray) false _ A31.out).mono ?_); rintro e w' ⟨rfl, ⟨nd, rfl⟩⟩; refine ⟨_, rfl, ?_⟩))
               go_ret
               exact ⟨by first | rfl | (simp [errW_none, errW_some] <;> rfl) | (simp [*, errW_none, errW_some] <;> rfl), by repeat (first | (with_reducible first | exact HB.out | apply below_alloc | apply pw_below_drewN | apply below_drew1) | exact HB.out)⟩
             ·rw [if_neg c30] at H
              exact absurd H (by simp)
         ·rw [if_neg c17] at H
          exact absurd H (by simp)
        ·rw [if_neg c16] at H
         exact absurd H (by simp)
       ·rw [if_neg c14] at H
        exact absurd H (by simp)
      ·rw [if_neg c13] at H
       exact absurd H (by simp)
     ·rw [if_neg c11] at H
      exact absurd H (by simp)
    ·rw [if_neg c10] at H
     exact absurd H (by simp)

end Go.Proofs.YtfddpaljmihinaaGreatDoor.PStamps
