/-
  From a run of the evaluator to a law's row: a call that answers true and leaves all that was there as it was. (Conditions: the run answers true; what it starts from is not written to.)
-/
import Derived.Test.YtfddpaljmihinaaGreatDoorEvLaid
import Derived.Below
import Derived.ProofKit
import Derived.OpenShut
namespace Go.Proofs.YtfddpaljmihinaaGreatDoor
namespace Ev
open Go Go.ChangeShapes Go.WideShapes Go.ChangeAt Go.RowKit

theorem below_of_step {r r' : Ren} {m m' : AMem} {w w' : World} (h : Step r m.next m.get w r' m'.next m'.get w') (hro : ∀ b k, m.get b = some k → k.writable = false) : Below w.heap.size w w' :=
  ⟨h.os, h.tape, h.output, h.size, fun cb hcb => h.keep cb hcb fun b k B hb hw => by rw [hro b k hb] at hw; cases hw⟩

/-- A call that the evaluator answers with true. -/
theorem calls_true {T : Tab} {P : Program} {f : FuncId} {fn : Func} {F : List AVal → AMem → Out AVal} (hF : CallOk T P f F) (hf : P.funcs[f]? = some fn) (hb : fn.body.isNone = false) (hn : (fn.name == "runtime.NumGoroutine") = false)
    {r : Ren} {W : World} {m : AMem} {args : List AVal} {args' : Array Value} (hg : GlobOk T r) (hm : MemRel r m.next m.get W) (ha : VsRel r args args'.toList) (hro : ∀ b k, m.get b = some k → k.writable = false)
    (hrun : (F args m).isTrue = true) : Calls P f args' W fun e W' => e = .returned (.bool true) ∧ Below W.heap.size W W' := by
  have hout : ∃ m', F args m = .ok (.bool true) m' := by
    unfold Out.isTrue at hrun
    split at hrun
    · exact ⟨_, by assumption⟩
    · cases hrun
  obtain ⟨m', hout⟩ := hout
  have hc := hF r W m args args' hg hm ha (by rw [hout]; trivial)
  rw [hout] at hc
  have henter : (callFunc f args').run P W = .ok (.enter f args') W := by
    have h2 : ¬ fn.name = "runtime.NumGoroutine" := by simpa using hn
    have h3 : ¬ fn.body = none := by intro e; rw [e] at hb; cases hb
    simp [callFunc, hf, h2, h3]
  rcases hc with ⟨v, w', h1, _⟩ | ⟨_, h⟩
  · rw [henter] at h1; cases h1
  · refine h.mono fun e W' hp => ?_
    obtain ⟨r', v', rfl, hv, hst⟩ := hp
    exact ⟨by rw [hv.bool_inv], below_of_step hst hro⟩

theorem start_ro {z : Int} {u1 u2 : TypeId} : ∀ b k, (startMem z u1 u2).get b = some k → k.writable = false := by
  intro b k h
  simp only [startMem, AMem.get, Tree.get_put, Tree.get_leaf] at h
  repeat' split at h
  all_goals first | (cases h; rfl) | cases h

section
variable {H : Type} {enc : TypeId × Value → H} {P : Program}

/-- What a law's row asks behind a call that leaves the old blocks as they were. -/
theorem post_of_old {f : Func} {s : ChangeSpec} {apart fresh handsOn again : Bool} {W W' : World} {args : Array Value} {v : Value} {ds gs : List (DataW H)} {before pa pv : List MemPlace} (hW : DataW.Whole enc P f.params.toList s.vars apart W args.toList ds gs before)
    (hres : ∀ (b : Nat) (sp : Nat → Bool) (hd : Bool), DataW.TrodAll enc P W' b sp hd f.resultTypes.toList (v.resultList f.resultTypes.size) (s.fn H (ds ++ gs)).results [])
    (hargs : ∀ sp : Nat → Bool, (∀ p ∈ before, sp p.block = true) → DataW.TrodAll enc P W' 0 sp true f.params.toList args.toList (s.fn H (ds ++ gs)).args pa)
    (hvars : ∀ sp : Nat → Bool, (∀ p ∈ before, sp p.block = true) → DataW.TrodVars enc P W' sp s.vars (s.fn H (ds ++ gs)).vars pv) (hps : before = pa ++ pv) (hbelow : Below W.heap.size W W')
    (hok : ∀ (j : Nat) (t : TypeId) (r : Value), f.resultTypes[j]? = some t → (v.resultList f.resultTypes.size)[j]? = some r → Value.okWide P W' .any 0 t r) : s.post enc P f apart fresh handsOn again W args v W' := by
  have hlt := hW.lt
  have hold : ∀ p ∈ before, (fun b => decide (b < W.heap.size)) p.block = true := fun p hp => decide_eq_true (hlt p hp)
  have hin : ∀ p, p ∈ ([] ++ pa) ++ pv ↔ p ∈ before := fun p => by rw [hps, List.nil_append]
  refine ⟨ds, gs, before, [], pa, pv, hW, hres _ _ _, hargs _ hold, hvars _ hold, World.keptBut_mono (fun p hp => ⟨hp, ?_⟩) (hbelow.frame (· ∈ before)), fun _ => ?_⟩
  · exact .inr (by simpa using (hin p).2 hp)
  obtain ⟨_, _, _, _, _, hz, hn⟩ := hW
  refine ⟨hok, _, _, ([] ++ pa) ++ pv, ⟨[] ++ pa, pv, trodAll_append (hargs _ fun _ _ => rfl) (hres _ _ _), hvars _ fun _ _ => rfl, rfl, fun b off hp => ?_, fun ha => ?_⟩, fun p hp _ => (hin p).1 hp⟩
  · have hp' := (hin _).1 hp
    rw [hbelow.frozen (p := ⟨b, off, none⟩) (hlt _ hp')]
    exact hz b off hp'
  · have hk := hn ha
    rw [hps] at hk
    simpa using hk
end
end Ev
end Go.Proofs.YtfddpaljmihinaaGreatDoor
