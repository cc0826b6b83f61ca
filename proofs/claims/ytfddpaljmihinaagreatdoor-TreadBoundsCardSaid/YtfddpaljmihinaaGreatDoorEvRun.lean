/-
  The evaluator's regions (in the order of the text), code and functions against the machine's. (Conditions: the tables tell of the program what is so; the callees do what they are said to do.)
-/
import Derived.Test.YtfddpaljmihinaaGreatDoorEvWrites2
import Derived.LoopN
namespace Go.Proofs.YtfddpaljmihinaaGreatDoor
namespace Ev
open Go
variable {D : Keep}

/-- What a call is said to come to. -/
def Post (r : Ren) (m : AMem) (w : World) (out : Out AVal) (e : Ending) (w' : World) : Prop :=
  match out with
  | .ok v m' => ∃ r' v', e = .returned v' ∧ VRel r' v v' ∧ Step r m.next m.get w r' m'.next m'.get w'
  | .pan v m' => ∃ r' v', e = .panicked [{ v := v', recovered := false }] ∧ VRel r' v v' ∧ Step r m.next m.get w r' m'.next m'.get w'
  | .fail _ => False

/-- A call: of a function that the machine itself does, or of one with a body. -/
def CallGives (P : Program) (f : FuncId) (args : Array Value) (w : World) (R : Ending → World → Prop) : Prop :=
  (∃ v w', (callFunc f args).run P w = .ok (.value v) w' ∧ R (.returned v) w') ∨ ((callFunc f args).run P w = .ok (.enter f args) w ∧ Calls P f args w R)

def Out.good {α : Type} : Out α → Prop
  | .fail _ => False
  | _ => True

def CallOk (T : Tab) (P : Program) (f : FuncId) (F : List AVal → AMem → Out AVal) : Prop :=
  ∀ (r : Ren) (w : World) (m : AMem) (args : List AVal) (args' : Array Value), GlobOk T r → MemRel r m.next m.get w → VsRel r args args'.toList → (F args m).good →
    CallGives P f args' w (Post r m w (F args m))

section
variable {T : Tab} {P : Program} (hT : TabOk T P)

theorem TRel.put {r : Ren} {t : Tree AVal} {n : Nat} {a : Act} (h : TRel D r t n a) {d : Nat} {v : AVal} {v' : Value} (hv : VRel r v v') (hd : d < n) (hf : D.pin d = none) : TRel D r (t.put d v) n (a.put (some d) v') := by
  refine ⟨by simp [Act.put, h.size], fun i u e => ?_, h.calm.put (fun d' e => by cases e; exact hf) v'⟩
  rw [Tree.get_put] at e
  simp only [Act.put]
  have hs := h.size
  by_cases c : d = i
  · rw [if_pos c] at e
    cases e
    subst c
    rw [Array.getD_eq_getD_getElem?, Array.getElem?_setIfInBounds, if_pos rfl, if_pos (by omega)]
    exact hv
  · rw [if_neg c] at e
    rw [Array.getD_eq_getD_getElem?, Array.getElem?_setIfInBounds, if_neg c, ← Array.getD_eq_getD_getElem?]
    exact h.at_ i u e

theorem putDst_ok {r : Ren} {t t' : Tree AVal} {n : Nat} {a : Act} (h : TRel D r t n a) {d : Option Nat} {v : AVal} {v' : Value} (hv : VRel r v v') (hf : ∀ d', d = some d' → D.pin d' = none) (e : putDst n t d v = some t') : TRel D r t' n (a.put d v') := by
  unfold putDst at e
  split at e
  · cases e; exact h
  · split at e
    · rename_i hb
      cases e
      exact h.put hv (Nat.le_of_ble_eq_true hb) (hf _ rfl)
    · cases e

theorem undef_rel (r : Ren) : VRel r (.tuple []) undef := .tupleOf (.nil r)

theorem wanted_ok {r : Ren} {t : Tree AVal} {n : Nat} {a : Act} {ops : Array Oper} {o : Oper} {b : Bool} (h : TRel D r t n a) (e : wantedOp ops t o = some b) : Region.wanted o (yielded ops a.tmps) = b := by
  unfold wantedOp at e
  unfold Region.wanted
  split at e
  · rename_i hg; cases e; rw [hg]
  · rename_i j want hg
    rw [hg]
    split at e
    · rename_i oj hj
      split at e
      · rename_i d hd
        have hy : ∀ c, a.tmps[d]? = some (.bool c) → yielded ops a.tmps j = some c := by
          intro c hc
          simp only [yielded, hj, hd, Option.bind_some, hc]
        have hy0 : (∀ c, a.tmps[d]? ≠ some (.bool c)) → yielded ops a.tmps j = none := by
          intro hc
          simp only [yielded, hj, hd, Option.bind_some]
        split at e
        · rename_i c hc
          cases e
          have := (h.at_ d _ hc).bool_inv
          have hd2 : a.tmps[d]? = some (.bool c) := by
            rw [Array.getD_eq_getD_getElem?] at this
            cases hx : a.tmps[d]? with
            | none => rw [hx] at this; simp [undef] at this
            | some x => rw [hx] at this; simp at this; rw [this]
          simp only [hy _ hd2]
          cases c <;> cases want <;> rfl
        · cases e
        · rename_i v hv1 hv2 hc
          cases e
          have hv := h.at_ d _ hc
          have hne : ∀ c, a.tmps[d]? ≠ some (.bool c) := by
            intro c hx
            rw [Array.getD_eq_getD_getElem?, hx] at hv
            simp only [Option.getD_some] at hv
            cases hv with
            | any => exact hv2 rfl
            | bool => exact hv1 _ rfl
          simp only [hy0 hne]
          rfl
        · cases e
      · cases e
    · cases e

/-- What one operation comes to. -/
def OneSat (T : Tab) (r : Ren) (m : AMem) (w : World) (a : Act) (o : Oper) (out : Out AVal) (next : Act → World → Prop) (Q : Exit → Act → World → Prop) : Prop :=
  match out with
  | .ok v m' => ∀ r' v' w', VRel r' v v' → GlobOk T r' → Step r m.next m.get w r' m'.next m'.get w' → next (a.put o.dst v') w'
  | .pan v m' => ∀ r' v' w', VRel r' v v' → Step r m.next m.get w r' m'.next m'.get w' → Q (.panic [{ v := v', recovered := false }]) a w'
  | .fail _ => False

include hT in
theorem evOne_ok {callF : FuncId → List AVal → AMem → Out AVal} (hcall : ∀ f, CallOk T P f (callF f)) {r : Ren} {t : Tree AVal} {n : Nat} {a : Act} {m : AMem} {w : World} {o : Oper}
    {next : Act → World → Prop} {Q : Exit → Act → World → Prop} (hg : GlobOk T r) (ht : TRel D r t n a) (hm : MemRel r m.next m.get w) (h : OneSat T r m w a o (evOne T callF t m o.op) next Q) : o.wp P a w next Q := by
  unfold evOne at h
  unfold Oper.wp
  split at h
  · split at h
    · rename_i v hv
      obtain ⟨v', e, hr⟩ := evP_ok hT w hg ht hv
      rw [e]
      exact h r v' w hr hg (.refl hm)
    · exact h.elim
  · split at h
    · rename_i v hv
      obtain ⟨v', e, hr⟩ := evR_ok hT hg ht hm hv
      rw [e]
      exact h r v' w hr hg (.refl hm)
    · exact h.elim
  · split at h
    · rename_i v k hv
      obtain ⟨hn1, hn2⟩ := hm.none_at (Nat.le_refl m.next)
      obtain ⟨v', w', B, e, hmade⟩ := evA_ok hT (w := w) hn1 hg ht hv
      rw [e]
      have hst := hmade.new hm hn2
      rw [← AMem.get_new] at hst
      exact h (r.ext m.next B) v' w' hmade.val (hg.mono hst.le) hst
    · exact h.elim
  · split at h
    · rename_i v m' hv
      obtain ⟨nx, v', w', r', e, hnx, hr, hst⟩ := evW_ok hT hg ht hm hv
      rw [e]
      rcases hnx with rfl | ⟨rfl, rfl⟩
      · exact h r' v' w' hr (hg.mono hst.le) hst
      · exact h r' undef w' hr (hg.mono hst.le) hst
    · rename_i f args hv
      obtain ⟨args', ha, e⟩ := evW_call hg ht hv
      have hgood : (callF f args m).good := by
        cases hc : callF f args m with
        | ok v m' => trivial
        | pan v m' => trivial
        | fail why => rw [hc] at h; exact h.elim
      rcases hcall f r w m args args' hg hm ha hgood with ⟨v, w', h1, h2⟩ | ⟨h1, h2⟩
      · rw [e, h1]
        cases hc : callF f args m with
        | ok u m' =>
          rw [hc] at h h2
          obtain ⟨r', v', e1, e2, e3⟩ := h2
          cases e1
          exact h r' _ w' e2 (hg.mono e3.le) e3
        | pan u m' =>
          rw [hc] at h2
          obtain ⟨r', v', e1, _⟩ := h2
          cases e1
        | fail why => rw [hc] at h; exact h.elim
      · rw [e, h1]
        show Calls P f args' w _
        refine h2.mono fun en w' hp => ?_
        cases hc : callF f args m with
        | ok u m' =>
          rw [hc] at h hp
          obtain ⟨r', v', e1, e2, e3⟩ := hp
          subst e1
          exact h r' v' w' e2 (hg.mono e3.le) e3
        | pan u m' =>
          rw [hc] at h hp
          obtain ⟨r', v', e1, e2, e3⟩ := hp
          subst e1
          exact h r' v' w' e2 e3
        | fail why => rw [hc] at h; exact h.elim
    · rename_i v hv
      obtain ⟨v', e, hr⟩ := evW_pan (P := P) (w := w) hg ht hv
      rw [e]
      exact h r v' w hr (.refl hm)
    · exact h.elim

/-- What a region comes to. -/
def OpsSat (D : Keep) (T : Tab) (n : Nat) (r : Ren) (m : AMem) (w : World) (out : Out (Tree AVal)) (Q : Exit → Act → World → Prop) : Prop :=
  match out with
  | .ok t m' => ∀ r' a' w', TRel D r' t n a' → GlobOk T r' → Step r m.next m.get w r' m'.next m'.get w' → Q .normal a' w'
  | .pan v m' => ∀ r' a' v' w', D.calm a' → VRel r' v v' → Step r m.next m.get w r' m'.next m'.get w' → Q (.panic [{ v := v', recovered := false }]) a' w'
  | .fail _ => False

theorem OpsSat.trans {n : Nat} {r r1 : Ren} {m m1 : AMem} {w w1 : World} {out : Out (Tree AVal)} {Q : Exit → Act → World → Prop} (h : Step r m.next m.get w r1 m1.next m1.get w1) (k : OpsSat D T n r m w out Q) : OpsSat D T n r1 m1 w1 out Q := by
  cases out with
  | ok t m' => exact fun r' a' w' a b c => k r' a' w' a b (h.trans c)
  | pan v m' => exact fun r' a' v' w' a b c => k r' a' v' w' a b (h.trans c)
  | fail why => exact k

include hT in
theorem evOps_ok {callF : FuncId → List AVal → AMem → Out AVal} (hcall : ∀ f, CallOk T P f (callF f)) {n : Nat} {ops : Array Oper} (hfr : D.frees ops) {Q : Exit → Act → World → Prop} :
    ∀ (rest : List Oper) (k : Nat), ops.toList.drop k = rest → ∀ {r : Ren} {t : Tree AVal} {a : Act} {m : AMem} {w : World}, GlobOk T r → TRel D r t n a → MemRel r m.next m.get w →
      OpsSat D T n r m w (evOps T callF n ops rest t m) Q → wpOps P ops Q (List.range' k rest.length) a w := by
  intro rest
  induction rest with
  | nil =>
    intro k _ r t a m w hg ht hm h
    exact h r a w ht hg (.refl hm)
  | cons o rest ih =>
    intro k hk r t a m w hg ht hm h
    have ho : ops[k]? = some o := by
      rw [← Array.getElem?_toList]
      have := congrArg (fun l => l[0]?) hk
      simpa [List.getElem?_drop] using this
    have hk2 : ops.toList.drop (k + 1) = rest := by
      have := congrArg (fun l => l.drop 1) hk
      simpa [List.drop_drop] using this
    simp only [List.length_cons, List.range'_succ, wpOps, ho]
    simp only [evOps] at h
    split at h
    · exact h.elim
    · rename_i hw
      rw [wanted_ok ht hw]
      simp only [Bool.false_eq_true, if_false]
      split at h
      · rename_i t' hp
        exact ih (k + 1) hk2 hg (putDst_ok ht (undef_rel r) (fun d e => hfr k o d ho e) hp) hm h
      · exact h.elim
    · rename_i hw
      rw [wanted_ok ht hw]
      simp only [if_true]
      left
      refine evOne_ok hT hcall hg ht hm ?_
      split at h
      · rename_i v m' hone
        rw [hone]
        split at h
        · rename_i t' hp
          intro r' v' w' hv hg' hst
          exact ih (k + 1) hk2 hg' (putDst_ok (ht.mono hst.le) hv (fun d e => hfr k o d ho e) hp) hst.mem (h.trans hst)
        · exact h.elim
      · rename_i v m' hone
        rw [hone]
        intro r' v' w' hv hst
        exact h r' a v' w' ht.calm hv hst
      · exact h.elim
      · exact h.elim
end
end Ev
end Go.Proofs.YtfddpaljmihinaaGreatDoor
