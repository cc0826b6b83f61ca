/-
  THE TIED CARD OF TreadKnown: the call answers true, whatever MaxLen holds. (Conditions: the row's own.) The frame began as the tool's skeleton; the laid form is the guide's worked one.
-/
import Derived.Test.YtfddpaljmihinaaGreatDoorEvFaults
import Derived.Test.YtfddpaljmihinaaGreatDoorTie
import Derived.Test.YtfddpaljmihinaaGreatDoorCards
import Derived.SevenTiedAt
import Derived.Stop.Joined
namespace Go.Proofs.YtfddpaljmihinaaGreatDoor.treadKnown
open Go Go.ChangeShapes Go.WideShapes Go.ChangeAt Go.RowKit Go.Proofs.YtfddpaljmihinaaGreatDoor.Ev

theorem own : ownKnob Tryz.prog.godebug = none := by kernel_rfl

theorem walk {W : World} (hL : laidMet Tryz.prog laidAll W) (hsh : W.ShapedOpen Tryz.prog) : Calls Tryz.prog 8 #[] W fun e W' => e = .returned (.bool true) ∧ Below W.heap.size W W' := by
  obtain ⟨z, hg, hm⟩ := begin_rel hL hsh
  exact calls_true (soundK 60 8) Tryz.func8 (by kernel_rfl) (by kernel_rfl) hg hm (.nil _) start_ro (run_treadKnown z)

set_option maxRecDepth 100000 in
theorem lifted (os : Os) (started : os.Started) (H : Type) (enc : TypeId × Value → H) :
    ReturnsInHanded {} Tryz.checked os 8 .any (fun w args => (Rows.treadKnownSpec.pre enc Tryz.prog Tryz.f8 Rows.treadKnownRow.domain false w args ∧ laidMetH Tryz.prog Rows.treadKnownRow.laid w) ∧ sizedMet enc Tryz.prog Tryz.f8 (OpenSpec.ofChange Rows.treadKnownSpec) false w args)
      (Rows.treadKnownSpec.post enc Tryz.prog Tryz.f8 false true false false) := by
  refine returnsInHanded_both (C := Tryz.checked) (X := fun w _ => laidMetH Tryz.prog Rows.treadKnownRow.laid w) (fun _ _ _ hh h => h.of_heap hh) own started (by kernel_rfl) Tryz.func8
    (ChangeSpec.witness_shaped (enc := enc) (C := Tryz.checked) (os := os) (X := fun w _ => laidMetH Tryz.prog Rows.treadKnownRow.laid w) false (World.laidAll Tryz.prog os Rows.treadKnownRow.laid) #[] 8 (World.laidAll_os _ _ _)
      (World.shaped_of_ZipB (by kernel_rfl) (by kernel_rfl)) (by kernel_rfl) (by kernel_rfl) (by kernel_rfl)
      (by rw [MakeChecks.laidMetH_plain _ _ _ (by kernel_rfl)]; exact laidMet_laidAll _ (by kernel_rfl) (by kernel_rfl))) ?_
  intro W base args ds gs before hval hW _ _ hL hsh _
  rw [MakeChecks.laidMetH_plain _ _ _ (by kernel_rfl)] at hL
  have hW' := hW
  obtain ⟨p, q, hA, hV, rfl, _, _⟩ := hW
  have hA2 : DataW.TrodAll enc Tryz.prog W 0 (fun _ => true) true Tryz.f8.params.toList args.toList ds p := hA
  rw [Tryz.params8] at hA2
  obtain ⟨rfl, rfl, rfl⟩ := trodAll_none hA2
  obtain ⟨rfl, rfl⟩ := trodVars_none hV
  simp only [List.append_nil] at hW'
  refine (walk hL hsh).mono fun e W' ⟨he, hb⟩ => ?_
  subst he
  exact ⟨_, rfl, post_of_old (pa := []) (pv := []) hW' (fun _ _ _ => (trodAll_cons_mk (shut_bool Tryz.underlying4 _) trodAll_mk0)) (fun sp _ => rfl) (fun _ _ => rfl) rfl hb (ok_one (by kernel_rfl) rfl (okWide_bool_mk Tryz.underlying4 _))⟩

theorem over : Rows.TreadKnownSaid :=
  OpenClaim.holds_of_wide 8 Tryz.f8 rfl rfl rfl rfl rfl rfl rfl ⟨rfl, rfl, rfl, rfl, rfl⟩ rfl rfl rfl rfl rfl (by kernel_rfl) Tryz.func8 (by kernel_rfl)
    (of_decide_eq_true (by kernel_rfl)) (by unfold Func.isWrapper; first | (rw [if_pos (by decide +kernel)]; kernel_rfl) | (rw [if_neg (by decide +kernel)]; exact ⟨rfl, rfl⟩))
    (fun os started H enc _ => lifted os started H enc)

theorem card_holds : Rows.TreadKnownCardSaid :=
  Claim7.holds_tied_plain_at .later [] [.data, .data, .data, .data, .sentinel, .sentinel, .pinned] true (true, "9d1192eba76c0b58287c3f41cfc02bfed55ab02a0080f51b6f39caab06670530") true over (fun _ h => by cases h) (by kernel_rfl) (fun _ h => by cases h) treadKnown_row_tie rfl ⟨rfl, rfl⟩ (by kernel_rfl) rfl
    (fun f fn hf hfn => by
      obtain rfl : f = 8 := Option.some.inj ((show Tryz.prog.funcNamed "dragoman/dragomanlaw11.TreadKnown" = some 8 by kernel_rfl).symm.trans hf) |>.symm
      obtain rfl : fn = Tryz.f8 := (Option.some.inj (Tryz.func8.symm.trans hfn)).symm
      exact ⟨by kernel_rfl, fun j t ht => by
        rw [Tryz.params8] at ht
        simp at ht⟩)
    (by kernel_rfl)
#print axioms card_holds
end Go.Proofs.YtfddpaljmihinaaGreatDoor.treadKnown
