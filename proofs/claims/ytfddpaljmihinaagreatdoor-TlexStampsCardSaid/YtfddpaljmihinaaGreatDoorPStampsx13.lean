/-
  A walk printed by the kit's printer, with functions that are given, and turned by programs of this session. (Conditions: what each theorem asks.)
-/
import Derived.Test.YtfddpaljmihinaaGreatDoorPStampsx12
-- PRINTED by print.py (a twelfth state) out of the translation, and cut by a program of this session's. Not trusted: Lean checks it.
namespace Go.Proofs.YtfddpaljmihinaaGreatDoor.PStamps
open Go.RowKit Go.Proofs.YtfddpaljmihinaaGreatDoorW.PrintWords Go.Proofs.YtfddpaljmihinaaGreatDoorW.PrintLast Go.Proofs.YtfddpaljmihinaaGreatDoorW.PrintMore
attribute [local go_sem] max2_int min2_int max_two min_two max_three min_three max_four min_four   -- for this text's walks alone

set_option linter.unusedVariables false
set_option linter.unusedSimpArgs false

set_option maxHeartbeats 8000000 in
set_option maxRecDepth 100000 in
theorem dragomanlaw10_TlexStamps.calls (k : Nat) (a0 : Int) (a1 : Int) (a2 : Int) (a3 : Int) (a4 : Int) (a5 : Int) (a6 : Int) (r : Bool) (w : World) [Go.Proofs.YtfddpaljmihinaaGreatDoor.Cut.GoodW w] (h : dragomanlaw10_TlexStamps.f k a0 a1 a2 a3 a4 a5 a6 = some r) :
  Calls Tryz.prog 5 #[.int .i64 a0, .int .i64 a1, .int .i64 a2, .int .i64 a3, .int .i64 a4, .int .i64 a5, .int .i64 a6] w fun e w' => e = .returned (.bool r) ∧ Below w.heap.size w w' := by
 have hu27 := Tryz.underlying27
 have HB := Aside0.mk (Below.refl w.heap.size w)
 have H : ((dragomanlaw10_awake.f).bind fun t202 => (if t202 = true then (if a0 < 0 then (dragomanlaw10_TlexStamps.j0 k a0 a1 a2 a3 a4 a5 a6 true) else (if a0 > 9999 then (dragomanlaw10_TlexStamps.j0 k a0 a1 a2 a3 a4 a5 a6 true) else (if a1 < 0 then (dragomanlaw10_TlexStamps.j0 k a0 a1 a2 a3 a4 a5 a6 true) else (if a1 > 13 then (dragomanlaw10_TlexStamps.j0 k a0 a1 a2 a3 a4 a5 a6 true) else (if a2 < 0 then (dragomanlaw10_TlexStamps.j0 k a0 a1 a2 a3 a4 a5 a6 true) else (if a2 > 32 then (dragomanlaw10_TlexStamps.j0 k a0 a1 a2 a3 a4 a5 a6 true) else (if a3 < 0 then (dragomanlaw10_TlexStamps.j0 k a0 a1 a2 a3 a4 a5 a6 true) else (if a3 > 25 then (dragomanlaw10_TlexStamps.j0 k a0 a1 a2 a3 a4 a5 a6 true) else (if a4 < 0 then (dragomanlaw10_TlexStamps.j0 k a0 a1 a2 a3 a4 a5 a6 true) else (if a4 > 61 then (dragomanlaw10_TlexStamps.j0 k a0 a1 a2 a3 a4 a5 a6 true) else (if a5 < 0 then (dragomanlaw10_TlexStamps.j0 k a0 a1 a2 a3 a4 a5 a6 true) else (if a5 > 62 then (dragomanlaw10_TlexStamps.j0 k a0 a1 a2 a3 a4 a5 a6 true) else (if a6 < 0 then (dragomanlaw10_TlexStamps.j0 k a0 a1 a2 a3 a4 a5 a6 true) else (dragomanlaw10_TlexStamps.j0 k a0 a1 a2 a3 a4 a5 a6 (decide (a6 > 25)))))))))))))))) else (some false))) = some r := h
 clear h
 replace H := Option.bind_eq_some_iff.mp H
 obtain ⟨t202, A80, H⟩ := H
 replace H : (if t202 = true then (if a0 < 0 then (dragomanlaw10_TlexStamps.j0 k a0 a1 a2 a3 a4 a5 a6 true) else (if a0 > 9999 then (dragomanlaw10_TlexStamps.j0 k a0 a1 a2 a3 a4 a5 a6 true) else (if a1 < 0 then (dragomanlaw10_TlexStamps.j0 k a0 a1 a2 a3 a4 a5 a6 true) else (if a1 > 13 then (dragomanlaw10_TlexStamps.j0 k a0 a1 a2 a3 a4 a5 a6 true) else (if a2 < 0 then (dragomanlaw10_TlexStamps.j0 k a0 a1 a2 a3 a4 a5 a6 true) else (if a2 > 32 then (dragomanlaw10_TlexStamps.j0 k a0 a1 a2 a3 a4 a5 a6 true) else (if a3 < 0 then (dragomanlaw10_TlexStamps.j0 k a0 a1 a2 a3 a4 a5 a6 true) else (if a3 > 25 then (dragomanlaw10_TlexStamps.j0 k a0 a1 a2 a3 a4 a5 a6 true) else (if a4 < 0 then (dragomanlaw10_TlexStamps.j0 k a0 a1 a2 a3 a4 a5 a6 true) else (if a4 > 61 then (dragomanlaw10_TlexStamps.j0 k a0 a1 a2 a3 a4 a5 a6 true) else (if a5 < 0 then (dragomanlaw10_TlexStamps.j0 k a0 a1 a2 a3 a4 a5 a6 true) else (if a5 > 62 then (dragomanlaw10_TlexStamps.j0 k a0 a1 a2 a3 a4 a5 a6 true) else (if a6 < 0 then (dragomanlaw10_TlexStamps.j0 k a0 a1 a2 a3 a4 a5 a6 true) else (dragomanlaw10_TlexStamps.j0 k a0 a1 a2 a3 a4 a5 a6 (decide (a6 > 25)))))))))))))))) else (some false)) = some r := H
 have A8 := Aside0.mk A80
 clear A80
 by_cases c9 : t202 = true
 ·subst c9
  have H1 : (if a0 < 0 then (dragomanlaw10_TlexStamps.j0 k a0 a1 a2 a3 a4 a5 a6 true) else (if a0 > 9999 then (dragomanlaw10_TlexStamps.j0 k a0 a1 a2 a3 a4 a5 a6 true) else (if a1 < 0 then (dragomanlaw10_TlexStamps.j0 k a0 a1 a2 a3 a4 a5 a6 true) else (if a1 > 13 then (dragomanlaw10_TlexStamps.j0 k a0 a1 a2 a3 a4 a5 a6 true) else (if a2 < 0 then (dragomanlaw10_TlexStamps.j0 k a0 a1 a2 a3 a4 a5 a6 true) else (if a2 > 32 then (dragomanlaw10_TlexStamps.j0 k a0 a1 a2 a3 a4 a5 a6 true) else (if a3 < 0 then (dragomanlaw10_TlexStamps.j0 k a0 a1 a2 a3 a4 a5 a6 true) else (if a3 > 25 then (dragomanlaw10_TlexStamps.j0 k a0 a1 a2 a3 a4 a5 a6 true) else (if a4 < 0 then (dragomanlaw10_TlexStamps.j0 k a0 a1 a2 a3 a4 a5 a6 true) else (if a4 > 61 then (dragomanlaw10_TlexStamps.j0 k a0 a1 a2 a3 a4 a5 a6 true) else (if a5 < 0 then (dragomanlaw10_TlexStamps.j0 k a0 a1 a2 a3 a4 a5 a6 true) else (if a5 > 62 then (dragomanlaw10_TlexStamps.j0 k a0 a1 a2 a3 a4 a5 a6 true) else (if a6 < 0 then (dragomanlaw10_TlexStamps.j0 k a0 a1 a2 a3 a4 a5 a6 true) else (dragomanlaw10_TlexStamps.j0 k a0 a1 a2 a3 a4 a5 a6 (decide (a6 > 25)))))))))))))))) = some r := by rw [if_pos rfl] at H; exact H
  clear H
  have H := H1
  clear H1
  have HC10 := Aside0.mk H
  clear H
  go_enter Tryz.func5, Tryz.ntmps5
  go_upto_region 3 with (first | ((with_reducible refine gate_callee (f := 14) rfl ?_); refine goesL_ (some 24) rfl rfl Tryz.func14 (by kernel_rfl) rfl #[] rfl (by (try simp only [List.map_toArray, List.map_cons, List.map_nil]); first | done | rfl | (simp only [List.length_drop, List.length_take]; rfl)) ?_; (with_reducible refine (dragomanlaw10_awake.calls  true _ A8.out).mono ?_); rintro e w11 ⟨rfl, hb⟩; refine ⟨_, rfl, ?_⟩; have n0_ := Aside0.mk (below_step (by repeat (first | (with_reducible first | exact HB.out | apply below_alloc | apply pw_below_drewN | apply below_drew1) | exact HB.out)) hb); clear HB; have HB := n0_; clear n0_; (try clear hb); (try clear hb2); (try clear hk); (try clear hi)))
  (try simp only [Act.put, List.setIfInBounds_toArray, List.set_cons_zero, List.set_cons_succ])
  go_cut [79] (fun v79 wc => ∃ (kq : Nat) (x79_9 : Bool), v79 = .bool x79_9 ∧ Aside0 (dragomanlaw10_TlexStamps.j0 kq a0 a1 a2 a3 a4 a5 a6 x79_9 = some r) ∧ Aside0 (kq ≤ k) ∧ Aside0 (Below w.heap.size w wc))
  case first =>
   have H := HC10.out
   clear HC10
   by_cases c12 : a0 < 0
   ·rw [if_pos c12] at H
    have c12b0 : decide (a0 < 0) = true := decide_eq_true c12
    clear c12
    (first | rw [c12b0] | (simp only [i64_w, i32_w]; rw [c12b0]) | skip)
    have H' := Aside0.mk H
    clear H
    go_wp2
    go_meet
    case rel => exact ⟨_, (true), (by first | rfl | (simp; done) | (simp [*]; done)), H', ⟨by first | omega | exact Nat.le_refl _⟩, ⟨by repeat (first | (with_reducible first | exact HB.out | apply below_alloc | apply pw_below_drewN | apply below_drew1) | exact HB.out)⟩⟩
   ·rw [if_neg c12] at H
    have c12b0 : decide (a0 < 0) = false := decide_eq_false c12
    clear c12
    (first | rw [c12b0] | (simp only [i64_w, i32_w]; rw [c12b0]) | skip)
    by_cases c13 : a0 > 9999
    ·rw [if_pos c13] at H
     have c13b0 : decide (9999 < a0) = true := decide_eq_true c13
     clear c13
     have H' := Aside0.mk H
     clear H
     go_wp2
     go_meet
     case rel => exact ⟨_, (true), (by first | rfl | (simp; done) | (simp [*]; done)), H', ⟨by first | omega | exact Nat.le_refl _⟩, ⟨by repeat (first | (with_reducible first | exact HB.out | apply below_alloc | apply pw_below_drewN | apply below_drew1) | exact HB.out)⟩⟩
    ·rw [if_neg c13] at H
     have c13b0 : decide (9999 < a0) = false := decide_eq_false c13
     clear c13
     by_cases c14 : a1 < 0
     ·rw [if_pos c14] at H
      have c14b0 : decide (a1 < 0) = true := decide_eq_true c14
      clear c14
      have H' := Aside0.mk H
      clear H
      go_wp2
      go_meet
      case rel => exact ⟨_, (true), (by first | rfl | (simp; done) | (simp [*]; done)), H', ⟨by first | omega | exact Nat.le_refl _⟩, ⟨by repeat (first | (with_reducible first | exact HB.out | apply below_alloc | apply pw_below_drewN | apply below_drew1) | exact HB.out)⟩⟩
     ·rw [if_neg c14] at H
      have c14b0 : decide (a1 < 0) = false := decide_eq_false c14
      clear c14
      by_cases c15 : a1 > 13
      ·rw [if_pos c15] at H
       have c15b0 : decide (13 < a1) = true := decide_eq_true c15
       clear c15
       have H' := Aside0.mk H
       clear H
       go_wp2
       go_meet
       case rel => exact ⟨_, (true), (by first | rfl | (simp; done) | (simp [*]; done)), H', ⟨by first | omega | exact Nat.le_refl _⟩, ⟨by repeat (first | (with_reducible first | exact HB.out | apply below_alloc | apply pw_below_drewN | apply below_drew1) | exact HB.out)⟩⟩
      ·rw [if_neg c15] at H
       have c15b0 : decide (13 < a1) = false := decide_eq_false c15
       clear c15
       by_cases c16 : a2 < 0
       ·rw [if_pos c16] at H
        have c16b0 : decide (a2 < 0) = true := decide_eq_true c16
        clear c16
        have H' := Aside0.mk H
        clear H
        go_wp2
        go_meet
        case rel => exact ⟨_, (true), (by first | rfl | (simp; done) | (simp [*]; done)), H', ⟨by first | omega | exact Nat.le_refl _⟩, ⟨by repeat (first | (with_reducible first | exact HB.out | apply below_alloc | apply pw_below_drewN | apply below_drew1) | exact HB.out)⟩⟩
       ·rw [if_neg c16] at H
        have c16b0 : decide (a2 < 0) = false := decide_eq_false c16
        clear c16
        by_cases c17 : a2 > 32
        ·rw [if_pos c17] at H
         have c17b0 : decide (32 < a2) = true := decide_eq_true c17
         clear c17
         have H' := Aside0.mk H
         clear H
         go_wp2
         go_meet
         case rel => exact ⟨_, (true), (by first | rfl | (simp; done) | (simp [*]; done)), H', ⟨by first | omega | exact Nat.le_refl _⟩, ⟨by repeat (first | (with_reducible first | exact HB.out | apply below_alloc | apply pw_below_drewN | apply below_drew1) | exact HB.out)⟩⟩
        ·rw [if_neg c17] at H
         have c17b0 : decide (32 < a2) = false := decide_eq_false c17
         clear c17
         by_cases c18 : a3 < 0
         ·rw [if_pos c18] at H
          have c18b0 : decide (a3 < 0) = true := decide_eq_true c18
          clear c18
          have H' := Aside0.mk H
          clear H
          go_wp2
          go_meet
          case rel => exact ⟨_, (true), (by first | rfl | (simp; done) | (simp [*]; done)), H', ⟨by first | omega | exact Nat.le_refl _⟩, ⟨by repeat (first | (with_reducible first | exact HB.out | apply below_alloc | apply pw_below_drewN | apply below_drew1) | exact HB.out)⟩⟩
         ·rw [if_neg c18] at H
          have c18b0 : decide (a3 < 0) = false := decide_eq_false c18
          clear c18
          by_cases c19 : a3 > 25
          ·rw [if_pos c19] at H
           have c19b0 : decide (25 < a3) = true := decide_eq_true c19
           clear c19
           have H' := Aside0.mk H
           clear H
           go_wp2
           go_meet
           case rel => exact ⟨_, (true), (by first | rfl | (simp; done) | (simp [*]; done)), H', ⟨by first | omega | exact Nat.le_refl _⟩, ⟨by repeat (first | (with_reducible first | exact HB.out | apply below_alloc | apply pw_below_drewN | apply below_drew1) | exact HB.out)⟩⟩
          ·rw [if_neg c19] at H
           have c19b0 : decide (25 < a3) = false := decide_eq_false c19
           clear c19
           by_cases c20 : a4 < 0
           ·rw [if_pos c20] at H
            have c20b0 : decide (a4 < 0) = true := decide_eq_true c20
            clear c20
            have H' := Aside0.mk H
            clear H
            go_wp2
            go_meet
            case rel => exact ⟨_, (true), (by first | rfl | (simp; done) | (simp [*]; done)), H', ⟨by first | omega | exact Nat.le_refl _⟩, ⟨by repeat (first | (with_reducible first | exact HB.out | apply below_alloc | apply pw_below_drewN | apply below_drew1) | exact HB.out)⟩⟩
           ·rw [if_neg c20] at H
            have c20b0 : decide (a4 < 0) = false := decide_eq_false c20
            clear c20
            by_cases c21 : a4 > 61
            ·rw [if_pos c21] at H
             have c21b0 : decide (61 < a4) = true := decide_eq_true c21
             clear c21
             have H' := Aside0.mk H
             clear H
             go_wp2
             go_meet
             case rel => exact ⟨_, (true), (by first | rfl | (simp; done) | (simp [*]; done)), H', ⟨by first | omega | exact Nat.le_refl _⟩, ⟨by repeat (first | (with_reducible first | exact HB.out | apply below_alloc | apply pw_below_drewN | apply below_drew1) | exact HB.out)⟩⟩
            ·rw [if_neg c21] at H
             have c21b0 : decide (61 < a4) = false := decide_eq_false c21
             clear c21
             by_cases c22 : a5 < 0
             ·rw [if_pos c22] at H
              have c22b0 : decide (a5 < 0) = true := decide_eq_true c22
              clear c22
              have H' := Aside0.mk H
              clear H
              go_wp2
              go_meet
              case rel => exact ⟨_, (true), (by first | rfl | (simp; done) | (simp [*]; done)), H', ⟨by first | omega | exact Nat.le_refl _⟩, ⟨by repeat (first | (with_reducible first | exact HB.out | apply below_alloc | apply pw_below_drewN | apply below_drew1) | exact HB.out)⟩⟩
             ·rw [if_neg c22] at H
              have c22b0 : decide (a5 < 0) = false := decide_eq_false c22
              clear c22
              by_cases c23 : a5 > 62
              ·rw [if_pos c23] at H
               have c23b0 : decide (62 < a5) = true := decide_eq_true c23
               clear c23
               have H' := Aside0.mk H
               clear H
               go_wp2
               go_meet
               case rel => exact ⟨_, (true), (by first | rfl | (simp; done) | (simp [*]; done)), H', ⟨by first | omega | exact Nat.le_refl _⟩, ⟨by repeat (first | (with_reducible first | exact HB.out | apply below_alloc | apply pw_below_drewN | apply below_drew1) | exact HB.out)⟩⟩
              ·rw [if_neg c23] at H
               have c23b0 : decide (62 < a5) = false := decide_eq_false c23
               clear c23
               by_cases c24 : a6 < 0
               ·rw [if_pos c24] at H
                have c24b0 : decide (a6 < 0) = true := decide_eq_true c24
                clear c24
                have H' := Aside0.mk H
                clear H
                go_wp2
                go_meet
                case rel => exact ⟨_, (true), (by first | rfl | (simp; done) | (simp [*]; done)), H', ⟨by first | omega | exact Nat.le_refl _⟩, ⟨by repeat (first | (with_reducible first | exact HB.out | apply below_alloc | apply pw_below_drewN | apply below_drew1) | exact HB.out)⟩⟩
               ·rw [if_neg c24] at H
                have c24b0 : decide (a6 < 0) = false := decide_eq_false c24
                clear c24
                have H' := Aside0.mk H
                clear H
                go_wp2
                go_meet
                case rel => exact ⟨_, (decide (a6 > 25)), (by first | rfl | (simp; done) | (simp [*]; done)), H', ⟨by first | omega | exact Nat.le_refl _⟩, ⟨by repeat (first | (with_reducible first | exact HB.out | apply below_alloc | apply pw_below_drewN | apply below_drew1) | exact HB.out)⟩⟩
  case rest =>
   go_step
   exact dragomanlaw10_TlexStamps.part1 (k := k) (by assumption) hcut
 ·replace c9 := Bool.eq_false_iff.mpr c9
  subst c9
  have H1 : (some false) = some r := by rw [if_neg (show ¬ (false = true) by decide)] at H; exact H
  clear H
  have H := H1
  clear H1
  obtain rfl := Option.some.inj H
  go_enter Tryz.func5, Tryz.ntmps5
  go_wp2_with (first | ((with_reducible refine gate_callee (f := 14) rfl ?_); refine goesL_ (some 24) rfl rfl Tryz.func14 (by kernel_rfl) rfl #[] rfl (by (try simp only [List.map_toArray, List.map_cons, List.map_nil]); first | done | rfl | (simp only [List.length_drop, List.length_take]; rfl)) ?_; (with_reducible refine (dragomanlaw10_awake.calls  false _ A8.out).mono ?_); rintro e w171 ⟨rfl, hb⟩; refine ⟨_, rfl, ?_⟩; have n0_ := Aside0.mk (below_step (by repeat (first | (with_reducible first | exact HB.out | apply below_alloc | apply pw_below_drewN | apply below_drew1) | exact HB.out)) hb); clear HB; have HB := n0_; clear n0_; (try clear hb); (try clear hb2); (try clear hk); (try clear hi)))
  go_ret
  exact ⟨by first | rfl | (simp [errW_none, errW_some] <;> rfl) | (simp [*, errW_none, errW_some] <;> rfl), by repeat (first | (with_reducible first | exact HB.out | apply below_alloc | apply pw_below_drewN | apply below_drew1) | exact HB.out)⟩

theorem dragomanlaw10_TlexStamps.walk (P : dragomanlaw10_TlexStamps.Pure) (a0 : Int) (a1 : Int) (a2 : Int) (a3 : Int) (a4 : Int) (a5 : Int) (a6 : Int) (w : World) [Go.Proofs.YtfddpaljmihinaaGreatDoor.Cut.GoodW w] (w0 : (Lit.int .i64 a0).wf = true) (w1 : (Lit.int .i64 a1).wf = true) (w2 : (Lit.int .i64 a2).wf = true) (w3 : (Lit.int .i64 a3).wf = true) (w4 : (Lit.int .i64 a4).wf = true) (w5 : (Lit.int .i64 a5).wf = true) (w6 : (Lit.int .i64 a6).wf = true) :
  Calls Tryz.prog 5 #[.int .i64 a0, .int .i64 a1, .int .i64 a2, .int .i64 a3, .int .i64 a4, .int .i64 a5, .int .i64 a6] w fun e w' => e = .returned (.bool true) ∧ Below w.heap.size w w' := by
 obtain ⟨k, h⟩ := P a0 a1 a2 a3 a4 a5 a6 w0 w1 w2 w3 w4 w5 w6
 refine (dragomanlaw10_TlexStamps.calls k a0 a1 a2 a3 a4 a5 a6 true w h).mono ?_
 rintro e w' ⟨rfl, hd⟩
 exact ⟨rfl, hd⟩

end Go.Proofs.YtfddpaljmihinaaGreatDoor.PStamps
