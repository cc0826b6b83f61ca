/-
  THE TIED CARD OF TopNames: the call answers true, whatever MaxLen holds. (Conditions: the row's own.) The frame began as the tool's skeleton; the laid form is the guide's worked one.
-/
import Derived.Test.YtjmapihogpdocaaGreatDoorEvNamesRun
import Derived.Test.YtjmapihogpdocaaGreatDoorEvTie
import Derived.Test.YtjmapihogpdocaaGreatDoorCards
import Derived.SevenTiedAt
import Derived.Stop.Joined
import Derived.Test.YtjmapihogpdocaaGreatDoorEvJTopNames
import Derived.Test.YtjmapihogpdocaaGreatDoorEvJTopNamesI
import Derived.Test.YtjmapihogpdocaaGreatDoorEvJTopNamesJ
import Derived.Test.YtjmapihogpdocaaGreatDoorEvJTopNamesK
import Derived.Test.YtjmapihogpdocaaGreatDoorEvJTopNamesL
namespace Go.Proofs.YtjmapihogpdocaaGreatDoor.topNames
open Go Go.ChangeShapes Go.WideShapes Go.ChangeAt Go.RowKit Go.Proofs.YtjmapihogpdocaaGreatDoor.Ev

theorem own : ownKnob Tryz.prog.godebug = none := by kernel_rfl

theorem walk {W : World} (hL : laidMet Tryz.prog laidAll W) (hsh : W.ShapedOpen Tryz.prog) : Calls Tryz.prog 3 #[] W fun e W' => e = .returned (.bool true) ∧ Below W.heap.size W W' := by
  obtain ⟨z, hg, hm⟩ := begin_rel hL hsh
  exact calls_true (soundXG 1000 3) Tryz.func3 (by kernel_rfl) (by kernel_rfl) hg hm (.nil _) start_ro (run_names z)

set_option maxRecDepth 100000 in
theorem lifted (os : Os) (started : os.Started) (H : Type) (enc : TypeId × Value → H) :
    ReturnsInHanded {} Tryz.checked os 3 .any (fun w args => (Rows.topNamesSpec.pre enc Tryz.prog Tryz.f3 Rows.topNamesRow.domain false w args ∧ laidMetH Tryz.prog Rows.topNamesRow.laid w) ∧ sizedMet enc Tryz.prog Tryz.f3 (OpenSpec.ofChange Rows.topNamesSpec) false w args)
      (Rows.topNamesSpec.post enc Tryz.prog Tryz.f3 false true false false) := by
  refine returnsInHanded_both (C := Tryz.checked) (X := fun w _ => laidMetH Tryz.prog Rows.topNamesRow.laid w) (fun _ _ _ hh h => h.of_heap hh) own started (by kernel_rfl) Tryz.func3
    (ChangeSpec.witness_shaped (enc := enc) (C := Tryz.checked) (os := os) (X := fun w _ => laidMetH Tryz.prog Rows.topNamesRow.laid w) false (World.laidAll Tryz.prog os Rows.topNamesRow.laid) #[] 8 (World.laidAll_os _ _ _)
      (World.shaped_of_ZipB (by kernel_rfl) (by kernel_rfl)) (by kernel_rfl) (by kernel_rfl) (by kernel_rfl)
      (by rw [MakeChecks.laidMetH_plain _ _ _ (by kernel_rfl)]; exact laidMet_laidAll _ (by kernel_rfl) (by kernel_rfl))) ?_
  intro W base args ds gs before hval hW _ _ hL hsh _
  rw [MakeChecks.laidMetH_plain _ _ _ (by kernel_rfl)] at hL
  have hW' := hW
  obtain ⟨p, q, hA, hV, rfl, _, _⟩ := hW
  have hA2 : DataW.TrodAll enc Tryz.prog W 0 (fun _ => true) true Tryz.f3.params.toList args.toList ds p := hA
  rw [Tryz.params3] at hA2
  obtain ⟨rfl, rfl, rfl⟩ := trodAll_none hA2
  obtain ⟨rfl, rfl⟩ := trodVars_none hV
  simp only [List.append_nil] at hW'
  refine (walk hL hsh).mono fun e W' ⟨he, hb⟩ => ?_
  subst he
  exact ⟨_, rfl, post_of_old (pa := []) (pv := []) hW' (fun _ _ _ => (trodAll_cons_mk (shut_bool Tryz.underlying4 _) trodAll_mk0)) (fun sp _ => rfl) (fun _ _ => rfl) rfl hb (ok_one (by kernel_rfl) rfl (okWide_bool_mk Tryz.underlying4 _))⟩

theorem inst : Tryz.f3.isInstance Tryz.pinned.checked.prog Rows.topNamesRow.origin Rows.topNamesRow.targs := of_decide_eq_true (by kernel_rfl)

theorem wrap : Tryz.f3.isWrapper Tryz.pinned.checked.prog Rows.topNamesRow.wrapper Rows.topNamesRow.mainSum := by
  unfold Func.isWrapper; first | (rw [if_pos (by decide +kernel)]; kernel_rfl) | (rw [if_neg (by decide +kernel)]; exact ⟨rfl, rfl⟩)

theorem over : Rows.TopNamesSaid :=
  OpenClaim.holds_of_wide 3 Tryz.f3 rfl rfl rfl rfl rfl rfl rfl ⟨rfl, rfl, rfl, rfl, rfl⟩ rfl rfl rfl rfl rfl m5 Tryz.func3 joined
    inst wrap (fun os started H enc _ => lifted os started H enc)

theorem main : Tryz.pinned.checked.prog.mainIs = some (true, ("e89ee34ea942ba13852f048daff23216626a3a6266653c09f20e762a975ea1cb" : String).toList) := by kernel_rfl

theorem card_holds : Rows.TopNamesCardSaid :=
  Claim7.holds_tied_plain_at .later [] [.pinned, .data, .sentinel, .sentinel, .data, .data, .data] true (true, "e89ee34ea942ba13852f048daff23216626a3a6266653c09f20e762a975ea1cb") true over (fun _ h => by cases h) m3 (fun _ h => by cases h) own_topNames_row_tie rfl ⟨rfl, rfl⟩ main rfl
    (fun f fn hf hfn => by
      obtain rfl : f = 3 := Option.some.inj ((m5).symm.trans hf) |>.symm
      obtain rfl : fn = Tryz.f3 := (Option.some.inj (Tryz.func3.symm.trans hfn)).symm
      exact ⟨m2, fun j t ht => by
        rw [Tryz.params3] at ht
        simp at ht⟩)
    m4
#print axioms card_holds
end Go.Proofs.YtjmapihogpdocaaGreatDoor.topNames
