/-
  The evaluator's regions, code and functions, those that draw their order and those that defer a function literal; and the evaluator made ready. (Conditions: none beyond what each theorem asks.)
-/
import Derived.Conc.LoneSelect
import Derived.Test.YtjmapihogpdocaaGreatDoorEvB
import Derived.LoopN
import Derived.Orders
import Derived.Recover
/-! ## EvRun -/
namespace Go.Proofs.YtjmapihogpdocaaGreatDoor
namespace Ev
open Go
variable {D : Keep}

/-- What a call is said to come to. -/
def Post (r : Ren) (m : AMem) (w : World) (out : Out AVal) (e : Ending) (w' : World) : Prop :=
  match out with
  | .ok v m' => ∃ r' v', e = .returned v' ∧ VRel r' v v' ∧ Step r m.next m.get w r' m'.next m'.get w'
  | .pan v m' => ∃ r' v', e = .panicked [{ v := v', recovered := false }] ∧ VRel r' v v' ∧ Step r m.next m.get w r' m'.next m'.get w'
  | .fail _ => False

/-- A call: of a function that the machine itself does, or of one with a body. -/
def CallGives (P : Program) (f : FuncId) (args : Array Value) (w : World) (R : Ending → World → Prop) : Prop :=
  (∃ v w', (callFunc f args).run P w = .ok (.value v) w' ∧ R (.returned v) w') ∨ ((callFunc f args).run P w = .ok (.enter f args) w ∧ Calls P f args w R)

def Out.good {α : Type} : Out α → Prop
  | .fail _ => False
  | _ => True

def CallOk (T : Tab) (P : Program) (f : FuncId) (F : List AVal → AMem → Out AVal) : Prop :=
  ∀ (r : Ren) (w : World) (m : AMem) (args : List AVal) (args' : Array Value), GlobOk T r → MemRel r m.next m.get w → VsRel r args args'.toList → (F args m).good →
    CallGives P f args' w (Post r m w (F args m))

section
variable {T : Tab} {P : Program} (hT : TabOk T P)

theorem TRel.put {r : Ren} {t : Tree AVal} {n : Nat} {a : Act} (h : TRel D r t n a) {d : Nat} {v : AVal} {v' : Value} (hv : VRel r v v') (hd : d < n) (hf : D.pin d = none) : TRel D r (t.put d v) n (a.put (some d) v') := by
  refine ⟨by simp [Act.put, h.size], fun i u e => ?_, h.calm.put (fun d' e => by cases e; exact hf) v'⟩
  rw [Tree.get_put] at e
  simp only [Act.put]
  have hs := h.size
  by_cases c : d = i
  · rw [if_pos c] at e
    cases e
    subst c
    rw [Array.getD_eq_getD_getElem?, Array.getElem?_setIfInBounds, if_pos rfl, if_pos (by omega)]
    exact hv
  · rw [if_neg c] at e
    rw [Array.getD_eq_getD_getElem?, Array.getElem?_setIfInBounds, if_neg c, ← Array.getD_eq_getD_getElem?]
    exact h.at_ i u e

theorem putDst_ok {r : Ren} {t t' : Tree AVal} {n : Nat} {a : Act} (h : TRel D r t n a) {d : Option Nat} {v : AVal} {v' : Value} (hv : VRel r v v') (hf : ∀ d', d = some d' → D.pin d' = none) (e : putDst n t d v = some t') : TRel D r t' n (a.put d v') := by
  unfold putDst at e
  split at e
  · cases e; exact h
  · split at e
    · rename_i hb
      cases e
      exact h.put hv (Nat.le_of_ble_eq_true hb) (hf _ rfl)
    · cases e

theorem undef_rel (r : Ren) : VRel r (.tuple []) undef := .tupleOf (.nil r)

theorem wanted_ok {r : Ren} {t : Tree AVal} {n : Nat} {a : Act} {ops : Array Oper} {o : Oper} {b : Bool} (h : TRel D r t n a) (e : wantedOp ops t o = some b) : Region.wanted o (yielded ops a.tmps) = b := by
  unfold wantedOp at e
  unfold Region.wanted
  split at e
  · rename_i hg; cases e; rw [hg]
  · rename_i j want hg
    rw [hg]
    split at e
    · rename_i oj hj
      split at e
      · rename_i d hd
        have hy : ∀ c, a.tmps[d]? = some (.bool c) → yielded ops a.tmps j = some c := by
          intro c hc
          simp only [yielded, hj, hd, Option.bind_some, hc]
        have hy0 : (∀ c, a.tmps[d]? ≠ some (.bool c)) → yielded ops a.tmps j = none := by
          intro hc
          simp only [yielded, hj, hd, Option.bind_some]
        split at e
        · rename_i c hc
          cases e
          have := (h.at_ d _ hc).bool_inv
          have hd2 : a.tmps[d]? = some (.bool c) := by
            rw [Array.getD_eq_getD_getElem?] at this
            cases hx : a.tmps[d]? with
            | none => rw [hx] at this; simp [undef] at this
            | some x => rw [hx] at this; simp at this; rw [this]
          simp only [hy _ hd2]
          cases c <;> cases want <;> rfl
        · cases e
        · rename_i v hv1 hv2 hc
          cases e
          have hv := h.at_ d _ hc
          have hne : ∀ c, a.tmps[d]? ≠ some (.bool c) := by
            intro c hx
            rw [Array.getD_eq_getD_getElem?, hx] at hv
            simp only [Option.getD_some] at hv
            cases hv with
            | any => exact hv2 rfl
            | bool => exact hv1 _ rfl
          simp only [hy0 hne]
          rfl
        · cases e
      · cases e
    · cases e

/-- What one operation comes to. -/
def OneSat (T : Tab) (r : Ren) (m : AMem) (w : World) (a : Act) (o : Oper) (out : Out AVal) (next : Act → World → Prop) (Q : Exit → Act → World → Prop) : Prop :=
  match out with
  | .ok v m' => ∀ r' v' w', VRel r' v v' → GlobOk T r' → Step r m.next m.get w r' m'.next m'.get w' → next (a.put o.dst v') w'
  | .pan v m' => ∀ r' v' w', VRel r' v v' → Step r m.next m.get w r' m'.next m'.get w' → Q (.panic [{ v := v', recovered := false }]) a w'
  | .fail _ => False

include hT in
theorem evOne_ok {callF : FuncId → List AVal → AMem → Out AVal} (hcall : ∀ f, CallOk T P f (callF f)) {r : Ren} {t : Tree AVal} {n : Nat} {a : Act} {m : AMem} {w : World} {o : Oper}
    {next : Act → World → Prop} {Q : Exit → Act → World → Prop} (hg : GlobOk T r) (ht : TRel D r t n a) (hm : MemRel r m.next m.get w) (h : OneSat T r m w a o (evOne T callF t m o.op) next Q) : o.wp P a w next Q := by
  unfold evOne at h
  unfold Oper.wp
  split at h
  · split at h
    · rename_i v hv
      obtain ⟨v', e, hr⟩ := evP_ok hT w hg ht hv
      rw [e]
      exact h r v' w hr hg (.refl hm)
    · exact h.elim
  · split at h
    · rename_i v hv
      obtain ⟨v', e, hr⟩ := evR_ok hT hg ht hm hv
      rw [e]
      exact h r v' w hr hg (.refl hm)
    · exact h.elim
  · split at h
    · rename_i v k hv
      obtain ⟨hn1, hn2⟩ := hm.none_at (Nat.le_refl m.next)
      obtain ⟨v', w', B, e, hmade⟩ := evA_ok hT (w := w) hn1 hg ht hv
      rw [e]
      have hst := hmade.new hm hn2
      rw [← AMem.get_new] at hst
      exact h (r.ext m.next B) v' w' hmade.val (hg.mono hst.le) hst
    · exact h.elim
  · split at h
    · rename_i v m' hv
      obtain ⟨nx, v', w', r', e, hnx, hr, hst⟩ := evW_ok hT hg ht hm hv
      rw [e]
      rcases hnx with rfl | ⟨rfl, rfl⟩
      · exact h r' v' w' hr (hg.mono hst.le) hst
      · exact h r' undef w' hr (hg.mono hst.le) hst
    · rename_i f args hv
      obtain ⟨args', ha, e⟩ := evW_call hg ht hv
      have hgood : (callF f args m).good := by
        cases hc : callF f args m with
        | ok v m' => trivial
        | pan v m' => trivial
        | fail why => rw [hc] at h; exact h.elim
      rcases hcall f r w m args args' hg hm ha hgood with ⟨v, w', h1, h2⟩ | ⟨h1, h2⟩
      · rw [e, h1]
        cases hc : callF f args m with
        | ok u m' =>
          rw [hc] at h h2
          obtain ⟨r', v', e1, e2, e3⟩ := h2
          cases e1
          exact h r' _ w' e2 (hg.mono e3.le) e3
        | pan u m' =>
          rw [hc] at h2
          obtain ⟨r', v', e1, _⟩ := h2
          cases e1
        | fail why => rw [hc] at h; exact h.elim
      · rw [e, h1]
        show Calls P f args' w _
        refine h2.mono fun en w' hp => ?_
        cases hc : callF f args m with
        | ok u m' =>
          rw [hc] at h hp
          obtain ⟨r', v', e1, e2, e3⟩ := hp
          subst e1
          exact h r' v' w' e2 (hg.mono e3.le) e3
        | pan u m' =>
          rw [hc] at h hp
          obtain ⟨r', v', e1, e2, e3⟩ := hp
          subst e1
          exact h r' v' w' e2 e3
        | fail why => rw [hc] at h; exact h.elim
    · rename_i v hv
      obtain ⟨v', e, hr⟩ := evW_pan (P := P) (w := w) hg ht hv
      rw [e]
      exact h r v' w hr (.refl hm)
    · exact h.elim

/-- What a region comes to. -/
def OpsSat (D : Keep) (T : Tab) (n : Nat) (r : Ren) (m : AMem) (w : World) (out : Out (Tree AVal)) (Q : Exit → Act → World → Prop) : Prop :=
  match out with
  | .ok t m' => ∀ r' a' w', TRel D r' t n a' → GlobOk T r' → Step r m.next m.get w r' m'.next m'.get w' → Q .normal a' w'
  | .pan v m' => ∀ r' a' v' w', D.calm a' → VRel r' v v' → Step r m.next m.get w r' m'.next m'.get w' → Q (.panic [{ v := v', recovered := false }]) a' w'
  | .fail _ => False

theorem OpsSat.trans {n : Nat} {r r1 : Ren} {m m1 : AMem} {w w1 : World} {out : Out (Tree AVal)} {Q : Exit → Act → World → Prop} (h : Step r m.next m.get w r1 m1.next m1.get w1) (k : OpsSat D T n r m w out Q) : OpsSat D T n r1 m1 w1 out Q := by
  cases out with
  | ok t m' => exact fun r' a' w' a b c => k r' a' w' a b (h.trans c)
  | pan v m' => exact fun r' a' v' w' a b c => k r' a' v' w' a b (h.trans c)
  | fail why => exact k

include hT in
theorem evOps_ok {callF : FuncId → List AVal → AMem → Out AVal} (hcall : ∀ f, CallOk T P f (callF f)) {n : Nat} {ops : Array Oper} (hfr : D.frees ops) {Q : Exit → Act → World → Prop} :
    ∀ (rest : List Oper) (k : Nat), ops.toList.drop k = rest → ∀ {r : Ren} {t : Tree AVal} {a : Act} {m : AMem} {w : World}, GlobOk T r → TRel D r t n a → MemRel r m.next m.get w →
      OpsSat D T n r m w (evOps T callF n ops rest t m) Q → wpOps P ops Q (List.range' k rest.length) a w := by
  intro rest
  induction rest with
  | nil =>
    intro k _ r t a m w hg ht hm h
    exact h r a w ht hg (.refl hm)
  | cons o rest ih =>
    intro k hk r t a m w hg ht hm h
    have ho : ops[k]? = some o := by
      rw [← Array.getElem?_toList]
      have := congrArg (fun l => l[0]?) hk
      simpa [List.getElem?_drop] using this
    have hk2 : ops.toList.drop (k + 1) = rest := by
      have := congrArg (fun l => l.drop 1) hk
      simpa [List.drop_drop] using this
    simp only [List.length_cons, List.range'_succ, wpOps, ho]
    simp only [evOps] at h
    split at h
    · exact h.elim
    · rename_i hw
      rw [wanted_ok ht hw]
      simp only [Bool.false_eq_true, if_false]
      split at h
      · rename_i t' hp
        exact ih (k + 1) hk2 hg (putDst_ok ht (undef_rel r) (fun d e => hfr k o d ho e) hp) hm h
      · exact h.elim
    · rename_i hw
      rw [wanted_ok ht hw]
      simp only [if_true]
      left
      refine evOne_ok hT hcall hg ht hm ?_
      split at h
      · rename_i v m' hone
        rw [hone]
        split at h
        · rename_i t' hp
          intro r' v' w' hv hg' hst
          exact ih (k + 1) hk2 hg' (putDst_ok (ht.mono hst.le) hv (fun d e => hfr k o d ho e) hp) hst.mem (h.trans hst)
        · exact h.elim
      · rename_i v m' hone
        rw [hone]
        intro r' v' w' hv hst
        exact h r' a v' w' ht.calm hv hst
      · exact h.elim
      · exact h.elim
end
end Ev
end Go.Proofs.YtjmapihogpdocaaGreatDoor

/-! ## EvCode -/
namespace Go.Proofs.YtjmapihogpdocaaGreatDoor
namespace Ev
open Go
variable {D : Keep}

def Ex.toExit : Ex → Exit
  | .normal => .normal
  | .exit id => .exit id
  | .goto l => .goto l
  | .ret => .ret

/-- What code comes to. -/
def CodeSat (D : Keep) (T : Tab) (n : Nat) (r : Ren) (m : AMem) (w : World) (out : Out (Ex × Tree AVal)) (Q : Exit → Act → World → Prop) : Prop :=
  match out with
  | .ok (e, t) m' => ∀ r' a' w', TRel D r' t n a' → GlobOk T r' → Step r m.next m.get w r' m'.next m'.get w' → Q e.toExit a' w'
  | .pan v m' => ∀ r' a' v' w', D.calm a' → VRel r' v v' → Step r m.next m.get w r' m'.next m'.get w' → Q (.panic [{ v := v', recovered := false }]) a' w'
  | .fail _ => False

section
variable {T : Tab} {P : Program} (hT : TabOk T P)

theorem CodeSat.trans {n : Nat} {r r1 : Ren} {m m1 : AMem} {w w1 : World} {out : Out (Ex × Tree AVal)} {Q : Exit → Act → World → Prop} (h : Step r m.next m.get w r1 m1.next m1.get w1) (k : CodeSat D T n r m w out Q) : CodeSat D T n r1 m1 w1 out Q := by
  cases out with
  | ok t m' => exact fun r' a' w' a b c => k r' a' w' a b (h.trans c)
  | pan v m' => exact fun r' a' v' w' a b c => k r' a' v' w' a b (h.trans c)
  | fail why => exact k

/-- A region, drawn or not. -/
def RegionOk (D : Keep) (T : Tab) (P : Program) (callF : FuncId → List AVal → AMem → Out AVal) (n : Nat) : Prop :=
  ∀ (id : Nat) (ops : Array Oper) (draw : Bool) (Q : Exit → Act → World → Prop) (r : Ren) (t : Tree AVal) (a : Act) (m : AMem) (w : World), D.frees ops → GlobOk T r → TRel D r t n a → MemRel r m.next m.get w →
    OpsSat D T n r m w (evRegion T callF n ops draw t m) Q → (Code.region id ops draw).wp P Q a w

theorem iter_ok {n : Nat} {c : Code} {body : Tree AVal → AMem → Out (Ex × Tree AVal)} {Q : Exit → Act → World → Prop}
    (hb : ∀ (r : Ren) (t : Tree AVal) (a : Act) (m : AMem) (w : World) (Q : Exit → Act → World → Prop), GlobOk T r → TRel D r t n a → MemRel r m.next m.get w → CodeSat D T n r m w (body t m) Q → c.wp P Q a w) :
    ∀ (k : Nat) (r : Ren) (t : Tree AVal) (a : Act) (m : AMem) (w : World), GlobOk T r → TRel D r t n a → MemRel r m.next m.get w → CodeSat D T n r m w (iter body k t m) Q → Code.rounds P c Q k a w := by
  intro k
  induction k with
  | zero => intro r t a m w _ _ _ h; exact h.elim
  | succ k ih =>
    intro r t a m w hg ht hm h
    rw [rounds_succ]
    refine hb r t a m w _ hg ht hm ?_
    simp only [iter] at h
    cases hbo : body t m with
    | ok x m' =>
      obtain ⟨e, t'⟩ := x
      rw [hbo] at h
      cases e with
      | normal => exact fun r' a' w' p q s => ih r' t' a' m' w' q p s.mem (h.trans s)
      | exit id => exact fun r' a' w' p q s => h r' a' w' p q s
      | goto l => exact fun r' a' w' p q s => h r' a' w' p q s
      | ret => exact fun r' a' w' p q s => h r' a' w' p q s
    | pan v m' => rw [hbo] at h; exact fun r' a' v' w' p q s => h r' a' v' w' p q s
    | fail why => rw [hbo] at h; exact h

/-- Code that writes no temporary that is to be left. -/
def Keep.avoids (D : Keep) : Code → Prop
  | .region _ ops _ => D.frees ops
  | .seq a b => D.avoids a ∧ D.avoids b
  | .cond _ a b => D.avoids a ∧ D.avoids b
  | .block _ a => D.avoids a
  | .loop a => D.avoids a
  | _ => True
theorem Keep.avoids_none : ∀ c : Code, Keep.none.avoids c := by
  intro c
  induction c with
  | region id ops draw => exact Keep.frees_none ops
  | seq a b iha ihb => exact ⟨iha, ihb⟩
  | cond c a b iha ihb => exact ⟨iha, ihb⟩
  | block id a iha => exact iha
  | loop a iha => exact iha
  | _ => trivial

theorem evCode_ok {callF : FuncId → List AVal → AMem → Out AVal} {fuel n : Nat} (hreg : RegionOk D T P callF n) :
    ∀ (c : Code) (r : Ren) (t : Tree AVal) (a : Act) (m : AMem) (w : World) (Q : Exit → Act → World → Prop), D.avoids c → GlobOk T r → TRel D r t n a → MemRel r m.next m.get w →
      CodeSat D T n r m w (evCode T callF fuel n c t m) Q → c.wp P Q a w := by
  intro c
  induction c with
  | skip =>
    intro r t a m w Q hv hg ht hm h
    exact wp_skip (h r a w ht hg (.refl hm))
  | region id ops draw =>
    intro r t a m w Q hv hg ht hm h
    refine hreg id ops draw Q r t a m w hv hg ht hm ?_
    simp only [evCode] at h
    cases hx : evRegion T callF n ops draw t m with
    | ok t' m' => rw [hx] at h; exact h
    | pan v m' => rw [hx] at h; exact h
    | fail why => rw [hx] at h; exact h
  | seq x y ihx ihy =>
    intro r t a m w Q hv hg ht hm h
    refine wp_seq (ihx r t a m w _ hv.1 hg ht hm ?_)
    simp only [evCode] at h
    cases hx : evCode T callF fuel n x t m with
    | ok z m' =>
      obtain ⟨e, t'⟩ := z
      rw [hx] at h
      cases e with
      | normal => exact fun r' a' w' p q s => ihy r' t' a' m' w' Q hv.2 q p s.mem (h.trans s)
      | exit id => exact fun r' a' w' p q s => h r' a' w' p q s
      | goto l => exact fun r' a' w' p q s => h r' a' w' p q s
      | ret => exact fun r' a' w' p q s => h r' a' w' p q s
    | pan v m' => rw [hx] at h; exact fun r' a' v' w' p q s => h r' a' v' w' p q s
    | fail why => rw [hx] at h; exact h
  | cond c x y ihx ihy =>
    intro r t a m w Q hv hg ht hm h
    simp only [evCode] at h
    have hc := ev_rel (T := T) hg ht c
    split at h
    · rename_i hb
      rw [hb] at hc
      exact wp_cond_true hc.bool_inv (ihx r t a m w Q hv.1 hg ht hm h)
    · rename_i hb
      rw [hb] at hc
      exact wp_cond_false hc.bool_inv (ihy r t a m w Q hv.2 hg ht hm h)
    · exact h.elim
  | block id c ih =>
    intro r t a m w Q hv hg ht hm h
    refine wp_block (ih r t a m w _ hv hg ht hm ?_)
    simp only [evCode] at h
    cases hx : evCode T callF fuel n c t m with
    | ok z m' =>
      obtain ⟨e, t'⟩ := z
      rw [hx] at h
      cases e with
      | normal => exact fun r' a' w' p q s => h r' a' w' p q s
      | exit id' =>
        simp only at h
        intro r' a' w' p q s
        show Exit.inBlock id Q (.exit id') a' w'
        simp only [Exit.inBlock]
        by_cases c : id' = id
        · rw [if_pos c] at h ⊢; exact h r' a' w' p q s
        · rw [if_neg c] at h ⊢; exact h r' a' w' p q s
      | goto l => exact fun r' a' w' p q s => h r' a' w' p q s
      | ret => exact fun r' a' w' p q s => h r' a' w' p q s
    | pan v m' => rw [hx] at h; exact fun r' a' v' w' p q s => h r' a' v' w' p q s
    | fail why => rw [hx] at h; exact h
  | loop c ih =>
    intro r t a m w Q hv hg ht hm h
    simp only [evCode] at h
    exact wp_loop_rounds fuel (iter_ok (fun r t a m w Q => ih r t a m w Q hv) fuel r t a m w hg ht hm h)
  | exit id =>
    intro r t a m w Q hv hg ht hm h
    exact wp_exit (h r a w ht hg (.refl hm))
  | ret =>
    intro r t a m w Q hv hg ht hm h
    exact wp_ret (h r a w ht hg (.refl hm))
  | rangeFunc f params assign body _ _ => intro r t a m w Q hv hg ht hm h; exact h.elim
  | scope body _ => intro r t a m w Q hv hg ht hm h; exact h.elim
  | label l => intro r t a m w Q hv hg ht hm h; exact h.elim
  | goto l => intro r t a m w Q hv hg ht hm h; exact h.elim
  | refuse why => intro r t a m w Q hv hg ht hm h; exact h.elim

/-! ### Results -/
include hT in
theorem resultsOf_ok {r : Ren} {t : Tree AVal} {n : Nat} {a : Act} {m : AMem} {w : World} (hg : GlobOk T r) (ht : TRel D r t n a) (hm : MemRel r m.next m.get w)
    (F : ResultVar → Sem Value) (hF1 : ∀ i, F (.tmp i) = pure (a.tmps.getD i undef)) (hF2 : ∀ b u, F (.cell b u) = (do loadVar u (← asAddr (a.tmps.getD b undef)))) :
    ∀ {rs : List ResultVar} {vs : List AVal}, resultsOf T t m rs = some vs → ∃ vs' : List Value, (rs.mapM F).run P w = .ok vs' w ∧ VsRel r vs vs' := by
  intro rs
  induction rs with
  | nil => intro vs h; cases h; exact ⟨[], rfl, .nil r⟩
  | cons x rs ih =>
    intro vs h
    cases x with
    | tmp i =>
      simp only [resultsOf] at h
      split at h
      · rename_i us hu
        cases h
        obtain ⟨vs', e, hv⟩ := ih hu
        refine ⟨a.tmps.getD i undef :: vs', ?_, .cons (ev_rel hg ht (.tmp i)) hv⟩
        simp only [List.mapM_cons, Sem.run_bind, hF1, Sem.run_pure, Result.andThen_ok, e]
      · cases h
    | cell b u =>
      simp only [resultsOf] at h
      split at h
      · rename_i v us hl hu
        cases h
        obtain ⟨vs', e, hv⟩ := ih hu
        have hb := ev_rel (T := T) hg ht (.tmp b)
        obtain ⟨v', e1, hv1⟩ := loadOp_ok hT hm hb hl
        refine ⟨v' :: vs', ?_, .cons hv1 hv⟩
        have e2 : (F (.cell b u)).run P w = .ok v' w := by
          have hp : ∃ bb o, ev T t (.tmp b) = .ptr bb o := by
            unfold loadOp at hl
            split at hl
            · exact ⟨_, _, by assumption⟩
            · cases hl
          obtain ⟨bb, o, hpo⟩ := hp
          rw [hpo] at hb
          obtain ⟨B, hB, hae⟩ := hb.ptr_inv
          have hae' : a.tmps.getD b undef = .pointer (some ⟨B.cb, B.base + o, none⟩) := hae
          rw [hF2, hae']
          have : a.eval (.tmp b) = .pointer (some ⟨B.cb, B.base + o, none⟩) := hae
          rw [this] at e1
          simpa [Instr.loadAt, Instr.sureAddr, asAddr] using e1
        simp only [List.mapM_cons, Sem.run_bind, e2, Sem.run_pure, Result.andThen_ok, e]
      · cases h

theorem argTree_rel {r : Ren} {args : List AVal} {args' : Array Value} {n : Nat} (h : VsRel r args args'.toList) (hn : args.length ≤ n) :
    TRel Keep.none r (argTree args) n { tmps := args' ++ Array.replicate (n - args'.size) undef, defers := [] } := by
  have hl : args'.size = args.length := by have := h.len; simpa using this
  refine ⟨by simp; omega, fun i v e => ?_, Keep.calm_none rfl⟩
  simp only [argTree, Tree.get_ofList] at e
  obtain ⟨v', e1, hv⟩ := h.get e
  have hi : i < args'.size := by
    rw [hl]
    rcases Nat.lt_or_ge i args.length with c | c
    · exact c
    · rw [List.getElem?_eq_none c] at e; cases e
  rw [Array.getElem?_toList] at e1
  rw [Array.getD_eq_getD_getElem?, Array.getElem?_append_left hi, e1]
  exact hv

include hT in
theorem evBody_ok {callF : FuncId → List AVal → AMem → Out AVal} {fuel : Nat} {f : FuncId} {fn : Func} (hreg : RegionOk Keep.none T P callF fn.ntmps) (hf : P.funcs[f]? = some fn)
    {r : Ren} {w : World} {m : AMem} {args : List AVal} {args' : Array Value} (hg : GlobOk T r) (hm : MemRel r m.next m.get w) (ha : VsRel r args args'.toList)
    (hgood : (evBody T callF fuel fn args m).good) : fn.body.isSome = true ∧ Calls P f args' w (Post r m w (evBody T callF fuel fn args m)) := by
  unfold evBody at hgood ⊢
  cases hb : fn.body with
  | none => rw [hb] at hgood; exact hgood.elim
  | some c =>
    rw [hb] at hgood
    refine ⟨rfl, ?_⟩
    simp only at hgood ⊢
    cases hle : Nat.ble args.length fn.ntmps with
    | false => rw [hle] at hgood; exact hgood.elim
    | true =>
      rw [hle] at hgood
      simp only at hgood ⊢
      have hn := Nat.le_of_ble_eq_true hle
      have ht := argTree_rel (n := fn.ntmps) ha hn
      refine calls_of_wp hf hb (evCode_ok (fuel := fuel) hreg c r (argTree args) _ m w _ (Keep.avoids_none c) hg ht hm ?_)
      have fin : ∀ (t : Tree AVal) (m' : AMem) (out : Out AVal), out = (match resultsOf T t m' fn.results.toList with | some vs => Out.ok (oneResult vs) m' | none => .fail "results") → out.good →
          ∀ r' a' w', TRel Keep.none r' t fn.ntmps a' → GlobOk T r' → Step r m.next m.get w r' m'.next m'.get w' →
            a'.defers = [] ∧ ∃ v, (results fn a'.tmps).run P w' = .ok v w' ∧ Post r m w out (.returned v) w' := by
        intro t m' out hout hgo r' a' w' p q s
        refine ⟨p.calm.1, ?_⟩
        cases hr : resultsOf T t m' fn.results.toList with
        | none => rw [hr] at hout; rw [hout] at hgo; exact hgo.elim
        | some vs =>
          rw [hr] at hout
          obtain ⟨F, eF, f1, f2⟩ : ∃ F : ResultVar → Sem Value, results fn a'.tmps = (do let vs ← fn.results.mapM F; pure (if h : vs.size = 1 then vs[0] else .tuple vs)) ∧
              (∀ i, F (.tmp i) = pure (a'.tmps.getD i undef)) ∧ (∀ b u, F (.cell b u) = (do loadVar u (← asAddr (a'.tmps.getD b undef)))) := ⟨_, rfl, fun _ => rfl, fun _ _ => rfl⟩
          obtain ⟨vs', e, hv⟩ := resultsOf_ok (P := P) hT q p s.mem F f1 f2 hr
          have hlen := hv.len
          refine ⟨if h : vs'.toArray.size = 1 then vs'.toArray[0] else .tuple vs'.toArray, ?_, ?_⟩
          · rw [eF, Array.mapM_eq_mapM_toList]
            simp only [Sem.run_bind, Sem.run_map, e, Result.andThen_ok, Sem.run_pure]
          · rw [hout]
            refine ⟨r', _, rfl, ?_, s⟩
            cases vs with
            | nil =>
              have := hv.nil_inv
              subst this
              exact .tupleOf (.nil r')
            | cons v vs =>
              cases vs with
              | nil =>
                obtain ⟨v', t', e1, e2, e3⟩ := hv.cons_inv
                have := e3.nil_inv
                subst this
                subst e1
                exact e2
              | cons u us =>
                have hne : ¬ vs'.toArray.size = 1 := by simp; simp at hlen; omega
                rw [dif_neg hne]
                exact .tupleOf hv
      cases hx : evCode T callF fuel fn.ntmps c (argTree args) m with
      | ok z m' =>
        obtain ⟨e, t⟩ := z
        rw [hx] at hgood
        cases e with
        | normal => exact fin t m' _ rfl hgood
        | ret => exact fin t m' _ rfl hgood
        | exit id => exact hgood.elim
        | goto l => exact hgood.elim
      | pan v m' =>
        intro r' a' v' w' p q s
        exact ⟨p.1, r', v', rfl, q, s⟩
      | fail why => rw [hx] at hgood; exact hgood.elim

include hT in
/-- THE EVALUATOR IS SOUND: whatever function it is asked for. -/
theorem evFn_ok (hspec : ∀ f F, T.spec f = some F → CallOk T P f F)
    (hreg : ∀ (callF : FuncId → List AVal → AMem → Out AVal), (∀ f, CallOk T P f (callF f)) → ∀ n, RegionOk Keep.none T P callF n) : ∀ (k : Nat) (f : FuncId), CallOk T P f (evFn T k f) := by
  intro k
  induction k with
  | zero => intro f r w m args args' hg hm ha hgood; exact hgood.elim
  | succ k ih =>
    intro f r w m args args' hg hm ha hgood
    simp only [evFn] at hgood ⊢
    cases hs : T.spec f with
    | some F =>
      rw [hs] at hgood
      exact hspec f F hs r w m args args' hg hm ha hgood
    | none =>
      rw [hs] at hgood
      simp only at hgood ⊢
      cases hf : T.fn f with
      | none => rw [hf] at hgood; exact hgood.elim
      | some fn =>
        rw [hf] at hgood
        simp only at hgood ⊢
        obtain ⟨h1, h2⟩ := hT.fn f fn hf
        obtain ⟨b1, b2⟩ := evBody_ok hT (hreg _ ih fn.ntmps) h1 hg hm ha hgood
        refine .inr ⟨?_, b2⟩
        have hbn : ¬ fn.body = none := by intro e; rw [e] at b1; cases b1
        have h2' : ¬ fn.name = "runtime.NumGoroutine" := by simpa using h2
        simp [callFunc, h1, h2', hbn]
end
end Ev
end Go.Proofs.YtjmapihogpdocaaGreatDoor

/-! ## EvCongr -/
namespace Go.Proofs.YtjmapihogpdocaaGreatDoor
namespace Ev
open Go

def Agree (T : Tab) (t t' : Tree AVal) (xs : Array Operand) : Prop := ∀ x ∈ xs, ev T t x = ev T t' x

section
variable {T : Tab} {t t' : Tree AVal}

theorem Agree.list {xs : Array Operand} (h : Agree T t t' xs) : evList T t xs = evList T t' xs := by
  unfold evList
  exact List.map_congr_left fun x hx => h x (by simpa using hx)

theorem parts_congr {ps : Array (Nat × Operand)} (h : ∀ x ∈ ps.map (·.2), ev T t x = ev T t' x) :
    (ps.toList.map fun p => (p.1, ev T t p.2)) = (ps.toList.map fun p => (p.1, ev T t' p.2)) :=
  List.map_congr_left fun p hp => by rw [h p.2 (Array.mem_map.2 ⟨p, by simpa using hp, rfl⟩)]

theorem evP_congr {o : Op} (h : Agree T t t' o.operands) : evP T t o = evP T t' o := by
  unfold Agree at h
  cases o <;> simp only [Op.operands] at h <;> simp only [evP]
  case move x => rw [h x (by simp)]
  case assign x => rw [h x (by simp)]
  case pick c a b => rw [h c (by simp), h a (by simp), h b (by simp)]
  case nilCheck x => rw [h x (by simp)]
  case binOp op xt x y yt => rw [h x (by simp), h y (by simp)]
  case unOp op xt x => rw [h x (by simp)]
  case convert s d x => rw [h x (by simp)]
  case makeInterface xt x => rw [h x (by simp)]
  case makeFunc fn f c => rw [Agree.list (xs := f) fun x hx => h x (by simp [hx]), Agree.list (xs := c) fun x hx => h x (by simp [hx])]
  case slice xt x lo hi mx => cases lo <;> cases hi <;> cases mx <;> simp_all
  case fieldAddr s x f => rw [h x (by simp)]
  case field s x f => rw [h x (by simp)]
  case indexAddr xt x i => rw [h x (by simp), h i (by simp)]
  case index xt x i => rw [h x (by simp), h i (by simp)]
  case typeAssert x xt at_ ok => rw [h x (by simp)]
  case extract x i => rw [h x (by simp)]
  case build u ps => rw [parts_congr (ps := ps) (fun x hx => h x (by simpa using hx))]
  case call c =>
    have := Agree.list (T := T) (t := t) (t' := t') (xs := c.args) fun x hx => h x (by simp [Call.operands, hx])
    rw [this]

theorem evR_congr {o : Op} {g : Nat → Option ABlk} (h : Agree T t t' o.operands) : evR T t g o = evR T t' g o := by
  unfold Agree at h
  cases o <;> simp only [Op.operands] at h <;> simp only [evR]
  case load u x => rw [h x (by simp)]
  case entry x => rw [h x (by simp)]
  case binOp op xt x y yt => rw [h x (by simp), h y (by simp)]
  case lookup mt x k ok => rw [h x (by simp), h k (by simp)]
  case slice xt x lo hi mx => cases lo <;> cases hi <;> cases mx <;> simp_all
  case convert s d x => rw [h x (by simp)]
  case call c =>
    have := Agree.list (T := T) (t := t) (t' := t') (xs := c.args) fun x hx => h x (by simp [Call.operands, hx])
    rw [this]

theorem evA_congr {o : Op} {id : Nat} (h : Agree T t t' o.operands) : evA T t id o = evA T t' id o := by
  unfold Agree at h
  cases o <;> simp only [Op.operands] at h <;> simp only [evA]
  case box e x => rw [h x (by simp)]
  case buildSlice st n ps => rw [parts_congr (ps := ps) (fun x hx => h x (by simpa using hx))]
  case makeMap mt r => cases r <;> simp_all
  case makeSlice st l c => rw [h l (by simp), h c (by simp)]
  case convert s d x => rw [h x (by simp)]
  case range xt x => rw [h x (by simp)]
  case makeChan ct s => rw [h s (by simp)]

theorem evW_congr {o : Op} {m : AMem} (h : Agree T t t' o.operands) : evW T t m o = evW T t' m o := by
  unfold Agree at h
  cases o <;> simp only [Op.operands] at h <;> simp only [evW]
  case store u x y => rw [h x (by simp), h y (by simp)]
  case mapUpdate mt x k y => rw [h x (by simp), h k (by simp), h y (by simp)]
  case insert mt x k y => rw [h x (by simp), h k (by simp), h y (by simp)]
  case next it s => rw [h it (by simp)]
  case range xt x => rw [h x (by simp)]
  case panic x => rw [h x (by simp)]
  case call c =>
    have := Agree.list (T := T) (t := t) (t' := t') (xs := c.args) fun x hx => h x (by simp [Call.operands, hx])
    rw [this]
    cases hc : c.callee with
    | value f => simp only [h f (by simp [Call.operands, hc])]
    | invoke x m => rfl
    | builtin b => cases b <;> rfl

theorem evOne_congr {callF : FuncId → List AVal → AMem → Out AVal} {o : Op} {m : AMem} (h : Agree T t t' o.operands) : evOne T callF t m o = evOne T callF t' m o := by
  unfold evOne
  rw [evP_congr h, evR_congr h, evA_congr h, evW_congr h]

/-! More memory, the same reading. -/
def Sub (g g' : Nat → Option ABlk) : Prop := ∀ b k, g b = some k → g' b = some k

theorem rowOf_mono {g g' : Nat → Option ABlk} (hs : Sub g g') {b o n : Nat} {cs : List AVal} (h : rowOf g b o n = some cs) : rowOf g' b o n = some cs := by
  unfold rowOf at h ⊢
  split at h
  · rename_i e vs ro frz wh hg
    rw [hs b _ hg]
    exact h
  · cases h

theorem loadOp_mono {g g' : Nat → Option ABlk} (hs : Sub g g') {u : TypeId} {y v : AVal} (h : loadOp T g u y = some v) : loadOp T g' u y = some v := by
  revert h
  unfold loadOp
  cases y with
  | ptr b o =>
    cases T.isAgg u with
    | none => nofun
    | some a =>
      cases a with
      | true =>
        cases T.size u with
        | none => nofun
        | some n =>
          intro h
          cases hr : rowOf g b o n with
          | none => simp [hr] at h
          | some cs =>
            simp only [rowOf_mono hs hr]
            simp only [hr] at h
            exact h
      | false =>
        cases hg : g b with
        | none => simp [hg]
        | some k => intro h; simp only [hs _ _ hg]; simp only [hg] at h; exact h
  | _ => nofun

theorem entriesOf_mono {g g' : Nat → Option ABlk} (hs : Sub g g') {y : AVal} {es} (h : entriesOf g y = some es) : entriesOf g' y = some es := by
  revert h
  unfold entriesOf
  cases y with
  | nmap => exact id
  | map b =>
    cases hg : g b with
    | none => simp [hg]
    | some k => intro h; simp only [hs _ _ hg]; simp only [hg] at h; exact h
  | _ => nofun

theorem lookupOp_mono {g g' : Nat → Option ABlk} (hs : Sub g g') {mt : TypeId} {y k v : AVal} {ok : Bool} (h : lookupOp T g mt y k ok = some v) : lookupOp T g' mt y k ok = some v := by
  cases he : entriesOf g y with
  | some es =>
    have he' := entriesOf_mono hs he
    revert h
    unfold lookupOp
    rw [he, he']
    exact id
  | none =>
    exfalso
    revert h
    unfold lookupOp
    rw [he]
    split
    · split <;> nofun
    · nofun

theorem sliceArr_mono {g g' : Nat → Option ABlk} (hs : Sub g g') {mt : TypeId} {y v : AVal} {lo hi mx} (h : sliceArr T g mt y lo hi mx = some v) : sliceArr T g' mt y lo hi mx = some v := by
  revert h
  unfold sliceArr
  cases hu : T.und mt with
  | none => nofun
  | some d =>
    cases d with
    | array n e =>
      cases y with
      | ptr b o =>
        cases hg : g b with
        | some k => simp only [hg, hs _ _ hg]; exact id
        | none => intro h; exfalso; cases hz : T.size e <;> simp [hg, hz] at h
      | _ => nofun
    | _ => nofun

theorem unsafeConv_mono {g g' : Nat → Option ABlk} (hs : Sub g g') {s d : TypeId} {y v : AVal} (h : unsafeConv T g s d y = some v) : unsafeConv T g' s d y = some v := by
  cases y with
  | ptr b o =>
    cases hg : g b with
    | some k =>
      have hg' := hs _ _ hg
      revert h
      unfold unsafeConv
      simp only [hg, hg']
      exact id
    | none =>
      exfalso
      revert h
      unfold unsafeConv
      simp only [hg]
      split
      · nofun
      · nofun
      · nofun
  | _ =>
    revert h
    unfold unsafeConv
    exact id

theorem entryOp_mono {g g' : Nat → Option ABlk} (hs : Sub g g') {x v : AVal} (h : entryOp g x = some v) : entryOp g' x = some v := by
  unfold entryOp at h ⊢
  split at h
  · rename_i b
    split at h
    · rename_i mb since sn last hg
      rw [hs _ _ hg]
      split at h
      · rename_i k u bn ck hgm
        simp only [hs _ _ hgm]
        exact h
      · cases h
    · cases h
  · cases h

theorem apartPtr_mono {g g' : Nat → Option ABlk} (hs : Sub g g') {u : TypeId} {x y : AVal} (h : apartPtr T g u x y = true) : apartPtr T g' u x y = true := by
  unfold apartPtr at h ⊢
  split at h
  · rename_i e b1 o1 b2 o2 hd
    split at h
    · rename_i k hne hk
      split at h
      · rename_i e1 vs1 e2 vs2 hg1 hg2
        simp only [hs _ _ hg1, hs _ _ hg2]
        exact h
      · cases h
    · cases h
  · cases h

theorem cmpPtr_mono {g g' : Nat → Option ABlk} (hs : Sub g g') {op : BinOp} {u : TypeId} {x y v : AVal} (h : cmpPtr T g op u x y = some v) : cmpPtr T g' op u x y = some v := by
  unfold cmpPtr at h ⊢
  split at h
  · split at h
    · rename_i hp
      rw [apartPtr_mono hs hp]
      exact h
    · cases h
  · split at h
    · rename_i hp
      rw [apartPtr_mono hs hp]
      exact h
    · cases h
  · cases h

theorem evR_mono {g g' : Nat → Option ABlk} (hs : Sub g g') {o : Op} {v : AVal} (h : evR T t g o = some v) : evR T t g' o = some v := by
  cases o
  case binOp op xt x y yt =>
    simp only [evR] at h ⊢
    cases hu : binop T op xt x y (ev T t x) (ev T t y) with
    | some u => rw [hu] at h; exact h
    | none => rw [hu] at h; exact cmpPtr_mono hs h
  case load u x => exact loadOp_mono hs h
  case entry x => exact entryOp_mono hs h
  case lookup mt x k ok => exact lookupOp_mono hs h
  case slice xt x lo hi mx => exact sliceArr_mono hs h
  case convert s d x =>
    revert h
    simp only [evR]
    split
    · rename_i e h1 h2
      split
      · exact id
      · rename_i b off len cap h3 h4
        cases hr : rowOf g b off len with
        | none => nofun
        | some cs => simp only [rowOf_mono hs hr]; exact id
      · nofun
    · exact unsafeConv_mono hs
  case call c =>
    revert h
    simp only [evR]
    split
    · split
      · split
        · rename_i b _ _ _ _ _ _ _ _ _ _
          cases hg : g b with
          | none => nofun
          | some k => simp only [hs _ _ hg]; exact id
        · nofun
      · nofun
    · split
      · split
        · rename_i b _ _ _ _ _ _ _ _ _ _
          cases hg : g b with
          | none => nofun
          | some k => simp only [hs _ _ hg]; exact id
        · nofun
      · nofun
    · nofun
  all_goals cases h
end
end Ev
end Go.Proofs.YtjmapihogpdocaaGreatDoor

/-! ## EvDraw -/
namespace Go.Proofs.YtjmapihogpdocaaGreatDoor
namespace Ev
open Go

theorem Cap.same_eq {c c' : Cap} (h : Cap.same c c' = true) : c = c' := by
  cases c <;> cases c' <;> simp_all [Cap.same]

theorem sameL_eq {p : AVal → AVal → Bool} (hp : ∀ a b, p a b = true → a = b) : ∀ {l l' : List AVal}, sameL p l l' = true → l = l'
  | [], [], _ => rfl
  | [], _ :: _, h => by simp [sameL] at h
  | _ :: _, [], h => by simp [sameL] at h
  | a :: as, b :: bs, h => by
    simp only [sameL] at h
    split at h
    · rename_i hab
      rw [hp a b hab, sameL_eq hp h]
    · cases h

theorem sameF_eq : ∀ (f : Nat) {a b : AVal}, sameF f a b = true → a = b
  | 0, a, b, h => by simp [sameF] at h
  | f + 1, a, b, h => by
    have ih := fun a b h => sameF_eq f (a := a) (b := b) h
    unfold sameF at h
    split at h
    · rfl
    · rw [eq_of_beq h]
    · split at h
      · rename_i hk; rw [hk, eq_of_beq h]
      · cases h
    · rw [bytesEq_eq] at h; rw [eq_of_beq h]
    · rfl
    · split at h
      · rename_i h1; rw [Nat.eq_of_beq_eq_true h1, Nat.eq_of_beq_eq_true h]
      · cases h
    · rfl
    · split at h
      · rename_i h1 h2 h3 h4 h5
        rw [Nat.eq_of_beq_eq_true h1, Nat.eq_of_beq_eq_true h2, Nat.eq_of_beq_eq_true h3, Nat.eq_of_beq_eq_true h4, Cap.same_eq h5]
      · cases h
    · rfl
    · rw [Nat.eq_of_beq_eq_true h]
    · rw [Nat.eq_of_beq_eq_true h]
    · split at h
      · rename_i h1 h2 h3
        rw [Nat.eq_of_beq_eq_true h1, sameL_eq ih h2, sameL_eq ih h3]
      · cases h
    · rfl
    · split at h
      · rename_i h1
        rw [Nat.eq_of_beq_eq_true h1, ih _ _ h]
      · cases h
    · rfl
    · rw [sameL_eq ih h]
    · rw [sameL_eq ih h]
    · cases h

theorem diff_testBit (a b i : Nat) : Nat.testBit (diff a b) i = (Nat.testBit a i && !Nat.testBit b i) := by
  show Nat.testBit ((a ||| b) ^^^ b) i = _
  rw [Nat.testBit_xor, Nat.testBit_or]
  cases Nat.testBit a i <;> cases Nat.testBit b i <;> rfl

theorem lor_testBit (a b i : Nat) : Nat.testBit (Nat.lor a b) i = (Nat.testBit a i || Nat.testBit b i) := Nat.testBit_or a b i
theorem land_testBit (a b i : Nat) : Nat.testBit (Nat.land a b) i = (Nat.testBit a i && Nat.testBit b i) := Nat.testBit_and a b i
theorem two_testBit (n i : Nat) : Nat.testBit (2 ^ n) i = decide (n = i) := Nat.testBit_two_pow

/-! ### Blocks beside the memory -/
def sideOf : List (Nat × ABlk) → Nat → Option ABlk
  | [], _ => none
  | x :: rest, j => if j = x.1 then some x.2 else sideOf rest j

theorem view_next (base : Nat) (m : AMem) (f : Nat → Bool) : ∀ made, (view base m f made).next = m.next
  | [] => rfl
  | (q, k) :: rest => by
    simp only [view]
    split
    · exact view_next base m f rest
    · exact view_next base m f rest

theorem AMem.get_set' (m : AMem) (b : Nat) (k : ABlk) (x : Nat) : (m.set b k).get x = if b = x then some k else m.get x := Tree.get_put m.tree b k x

theorem view_side {base : Nat} {m : AMem} {f : Nat → Bool} : ∀ {made : List (Nat × ABlk)} {q : Nat} {k : ABlk}, f q = true → sideOf made q = some k → (view base m f made).get (base + q) = some k
  | [], _, _, _, h => by simp [sideOf] at h
  | (x, y) :: rest, q, k, hf, h => by
    simp only [sideOf] at h
    simp only [view]
    by_cases e : q = x
    · subst e
      rw [if_pos rfl] at h
      cases h
      rw [hf]
      simp [AMem.get_set']
    · rw [if_neg e] at h
      have ih := view_side (base := base) (m := m) hf h
      split
      · rw [AMem.get_set', if_neg (by omega)]; exact ih
      · exact ih

theorem view_main {base : Nat} {m : AMem} {f : Nat → Bool} : ∀ {made : List (Nat × ABlk)} {b : Nat}, (∀ q, b = base + q → f q = true → sideOf made q = none) → (view base m f made).get b = m.get b
  | [], _, _ => rfl
  | (x, y) :: rest, b, h => by
    have ih : (view base m f rest).get b = m.get b := view_main fun q hq hf => by
      have := h q hq hf
      simp only [sideOf] at this
      split at this
      · cases this
      · exact this
    simp only [view]
    split
    · rename_i hf
      rw [AMem.get_set', if_neg ?_]
      · exact ih
      · intro e
        have := h x e.symm hf
        simp [sideOf] at this
    · exact ih

theorem view_cases {base : Nat} {m : AMem} {f : Nat → Bool} {made : List (Nat × ABlk)} {b : Nat} {k : ABlk} (h : (view base m f made).get b = some k) :
    (∃ q, b = base + q ∧ f q = true ∧ sideOf made q = some k) ∨ (m.get b = some k ∧ ∀ q, b = base + q → f q = true → sideOf made q = none) := by
  by_cases c : ∃ q k', b = base + q ∧ f q = true ∧ sideOf made q = some k'
  · obtain ⟨q, k', e, hf, hs⟩ := c
    have := view_side (base := base) (m := m) hf hs
    rw [← e, h] at this
    cases this
    exact .inl ⟨q, e, hf, hs⟩
  · have hn : ∀ q, b = base + q → f q = true → sideOf made q = none := by
      intro q e hf
      cases hs : sideOf made q with
      | none => rfl
      | some k' => exact absurd ⟨q, k', e, hf, hs⟩ c
    rw [view_main hn] at h
    exact .inr ⟨h, hn⟩

theorem view_newer (base : Nat) (m : AMem) (f : Nat → Bool) (made : List (Nat × ABlk)) : ∀ (newer : List (Nat × ABlk)), (∀ x ∈ newer, f x.1 = false) → view base m f (newer ++ made) = view base m f made
  | [], _ => rfl
  | (x, y) :: rest, h => by
    simp only [List.cons_append, view]
    rw [h (x, y) (by simp)]
    exact view_newer base m f made rest fun z hz => h z (by simp [hz])

theorem sideOf_newer (made : List (Nat × ABlk)) (q : Nat) : ∀ (newer : List (Nat × ABlk)), (∀ x ∈ newer, x.1 ≠ q) → sideOf (newer ++ made) q = sideOf made q
  | [], _ => rfl
  | (x, y) :: rest, h => by
    simp only [List.cons_append, sideOf]
    rw [if_neg (fun e => h (x, y) (by simp) e.symm)]
    exact sideOf_newer made q rest fun z hz => h z (by simp [hz])

theorem sideOf_none (made : List (Nat × ABlk)) (q : Nat) (h : ∀ x ∈ made, x.1 ≠ q) : sideOf made q = none := by
  have := sideOf_newer [] q made h
  simpa [sideOf] using this

theorem sideOf_mem {made : List (Nat × ABlk)} {q : Nat} {k : ABlk} (h : sideOf made q = some k) : ∃ x ∈ made, x.1 = q := by
  by_cases c : ∃ x ∈ made, x.1 = q
  · exact c
  · rw [sideOf_none made q fun x hx e => c ⟨x, hx, e⟩] at h
    cases h

/-! ### Masks -/
theorem maskFrom_spec {pre : Tree Nat} : ∀ {es : List Edge} {m : Nat}, maskFrom pre es = some m →
    (∀ b, m.testBit b = true → ∃ e ∈ es, Region.binds .any e = true ∧ (b = e.on ∨ ∃ p', pre.get e.on = some p' ∧ p'.testBit b = true)) ∧
    ∀ e ∈ es, Region.binds .any e = true → ∃ p', pre.get e.on = some p'
  | [], m, h => by
    simp only [maskFrom] at h
    cases h
    exact ⟨fun b hb => by simp at hb, fun e he => by simp at he⟩
  | e :: es, m, h => by
    simp only [maskFrom] at h
    split at h
    · rename_i hb
      obtain ⟨h1, h2⟩ := maskFrom_spec h
      refine ⟨fun b hb => let ⟨e', he', x⟩ := h1 b hb; ⟨e', by simp [he'], x⟩, fun e' he' hb' => ?_⟩
      rcases List.mem_cons.1 he' with rfl | he'
      · rw [hb] at hb'; cases hb'
      · exact h2 e' he' hb'
    · rename_i hb
      split at h
      · rename_i k m' hk hm
        cases h
        obtain ⟨h1, h2⟩ := maskFrom_spec hm
        refine ⟨fun b hb' => ?_, fun e' he' hb' => ?_⟩
        · rw [lor_testBit, lor_testBit, two_testBit] at hb'
          simp only [Bool.or_eq_true, decide_eq_true_eq] at hb'
          rcases hb' with (h3 | h3) | h3
          · exact ⟨e, by simp, hb, .inl h3.symm⟩
          · exact ⟨e, by simp, hb, .inr ⟨k, hk, h3⟩⟩
          · obtain ⟨e', he', x⟩ := h1 b h3
            exact ⟨e', by simp [he'], x⟩
        · rcases List.mem_cons.1 he' with rfl | he'
          · exact ⟨k, hk⟩
          · exact h2 e' he' hb'
      · cases h

def PreAt (pre : Tree Nat) (i : Nat) (o : Oper) : Prop :=
  ∃ p, pre.get i = some p ∧ (∀ b, p.testBit b = true → b < i ∧ ∃ e ∈ o.after, Region.binds .any e = true ∧ (b = e.on ∨ ∃ p', pre.get e.on = some p' ∧ p'.testBit b = true)) ∧
    ∀ e ∈ o.after, Region.binds .any e = true → e.on < i

theorem masks_spec : ∀ (l : List Oper) (i : Nat) (p pre : Tree Nat), (∀ j, i ≤ j → p.get j = none) → (∀ j k, p.get j = some k → ∀ b, k.testBit b = true → b < j) → masks l i p = some pre →
    (∀ j, j < i → pre.get j = p.get j) ∧ ∀ j o, l[j]? = some o → PreAt pre (i + j) o
  | [], i, p, pre, _, _, h => by
    simp only [masks] at h
    cases h
    exact ⟨fun _ _ => rfl, fun j o e => by simp at e⟩
  | o :: rest, i, p, pre, hn, hb, h => by
    simp only [masks] at h
    split at h
    · rename_i k hk
      obtain ⟨s1, s2⟩ := maskFrom_spec hk
      have below : ∀ j k', p.get j = some k' → j < i := fun j k' e => by
        rcases Nat.lt_or_ge j i with c | c
        · exact c
        · rw [hn j c] at e; cases e
      have hkb : ∀ b, k.testBit b = true → b < i := by
        intro b hb'
        obtain ⟨e, he, hbind, h3⟩ := s1 b hb'
        obtain ⟨p1, hp1⟩ := s2 e he hbind
        rcases h3 with rfl | ⟨p', hp', hb2⟩
        · exact below _ _ hp1
        · exact Nat.lt_trans (hb _ _ hp' b hb2) (below _ _ hp')
      obtain ⟨r1, r2⟩ := masks_spec rest (i + 1) (p.put i k) pre
        (fun j hj => by rw [Tree.get_put, if_neg (by omega)]; exact hn j (by omega))
        (fun j k' e b hb' => by
          rw [Tree.get_put] at e
          split at e
          · rename_i c; cases e; rw [← c]; exact hkb b hb'
          · exact hb j k' e b hb') h
      have low : ∀ j, j < i → pre.get j = p.get j := fun j hj => by rw [r1 j (by omega), Tree.get_put, if_neg (by omega)]
      refine ⟨low, fun j o' e => ?_⟩
      cases j with
      | zero =>
        simp at e
        subst e
        refine ⟨k, by rw [Nat.add_zero, r1 i (by omega), Tree.get_put, if_pos rfl], fun b hb' => ⟨hkb b hb', ?_⟩, fun e he hbind => ?_⟩
        · obtain ⟨e, he, hbind, h3⟩ := s1 b hb'
          refine ⟨e, by simpa using he, hbind, ?_⟩
          rcases h3 with h3 | ⟨p', hp', hb2⟩
          · exact .inl h3
          · exact .inr ⟨p', by rw [low _ (below _ _ hp')]; exact hp', hb2⟩
        · obtain ⟨p1, hp1⟩ := s2 e (by simpa using he) hbind
          exact below _ _ hp1
      | succ j =>
        have := r2 j o' (by simpa using e)
        rw [show i + (j + 1) = i + 1 + j by omega]
        exact this
    · cases h

theorem whoOf_spec : ∀ (l : List Oper) (i : Nat) (w who : Tree Nat), whoOf l i w = some who →
    (∀ d j, w.get d = some j → who.get d = some j) ∧ ∀ (j : Nat) (o : Oper) d, l[j]? = some o → o.dst = some d → who.get d = some (i + j)
  | [], i, w, who, h => by
    simp only [whoOf] at h
    cases h
    exact ⟨fun _ _ e => e, fun j o d e => by simp at e⟩
  | o :: rest, i, w, who, h => by
    simp only [whoOf] at h
    split at h
    · rename_i hd
      obtain ⟨r1, r2⟩ := whoOf_spec rest (i + 1) w who h
      refine ⟨r1, fun j o' d e hd' => ?_⟩
      cases j with
      | zero => simp at e; subst e; rw [hd] at hd'; cases hd'
      | succ j => rw [r2 j o' d (by simpa using e) hd']; congr 1; omega
    · rename_i d hd
      split at h
      · cases h
      · rename_i hw
        obtain ⟨r1, r2⟩ := whoOf_spec rest (i + 1) (w.put d i) who h
        refine ⟨fun d' j e => r1 d' j ?_, fun j o' d' e hd' => ?_⟩
        · rw [Tree.get_put, if_neg ?_]
          · exact e
          · intro c; subst c; rw [hw] at e; cases e
        · cases j with
          | zero =>
            simp at e
            subst e
            rw [hd] at hd'
            cases hd'
            exact r1 _ _ (by rw [Tree.get_put, if_pos rfl]; rfl)
          | succ j => rw [r2 j o' d' (by simpa using e) hd']; congr 1; omega

theorem looksOk_spec {pre who : Tree Nat} {i p : Nat} : ∀ {us : List Nat}, looksOk pre who i p us = true → ∀ u ∈ us, ∀ j, who.get u = some j → p.testBit j = true ∨ ∃ pj, pre.get j = some pj ∧ pj.testBit i = true
  | [], _, u, hu => by simp at hu
  | u :: us, h, x, hx => by
    simp only [looksOk] at h
    split at h
    · rename_i hw
      rcases List.mem_cons.1 hx with rfl | hx
      · intro j hj; rw [hw] at hj; cases hj
      · exact looksOk_spec h x hx
    · rename_i j hw
      split at h
      · rename_i hb
        rcases List.mem_cons.1 hx with rfl | hx
        · intro j' hj; rw [hw] at hj; cases hj; exact .inl hb
        · exact looksOk_spec h x hx
      · split at h
        · rename_i pj hpj
          split at h
          · rename_i hb
            rcases List.mem_cons.1 hx with rfl | hx
            · intro j' hj; rw [hw] at hj; cases hj; exact .inr ⟨pj, hpj, hb⟩
            · exact looksOk_spec h x hx
          · cases h
        · cases h

/-! ### Stages -/
def stageOf : List Stage → Nat → Option Stage
  | [], _ => none
  | s :: rest, k => if k = rest.length then some s else stageOf rest k

theorem stageOf_lt : ∀ {l : List Stage} {k : Nat} {s : Stage}, stageOf l k = some s → k < l.length
  | [], k, s, h => by simp [stageOf] at h
  | x :: rest, k, s, h => by
    simp only [stageOf] at h
    split at h
    · rename_i e; simp [e]
    · have := stageOf_lt h; simp; omega

theorem stageOf_some : ∀ {l : List Stage} {k : Nat}, k < l.length → ∃ s, stageOf l k = some s
  | [], k, h => by simp at h
  | x :: rest, k, h => by
    simp only [stageOf]
    split
    · exact ⟨x, rfl⟩
    · exact stageOf_some (by simp at h; omega)

theorem stageOf_cons {l : List Stage} {x : Stage} {k : Nat} {s : Stage} (h : stageOf l k = some s) : stageOf (x :: l) k = some s := by
  simp only [stageOf]
  rw [if_neg (Nat.ne_of_lt (stageOf_lt h))]
  exact h
end Ev
end Go.Proofs.YtjmapihogpdocaaGreatDoor

/-! ## EvDraw2 -/
namespace Go.Proofs.YtjmapihogpdocaaGreatDoor
namespace Ev
open Go

def DS.stages (ds : DS) : List Stage := ds.st :: ds.old

structure Later (ops : Array Oper) (i : Nat) (ds dsE : DS) : Prop where
  t : ∀ u, (∀ j o, i ≤ j → ops[j]? = some o → o.dst ≠ some u) → dsE.t.get u = ds.t.get u
  made : ∃ newer, dsE.made = newer ++ ds.made ∧ ∀ x ∈ newer, i ≤ x.1
  st : ∀ k s, stageOf ds.stages k = some s → stageOf dsE.stages k = some s
  reads : ∀ rd ∈ ds.reads, rd ∈ dsE.reads
  pan : ∀ x, ds.pan = some x → dsE.pan = some x
  fix : ∀ x, ds.pan = some x → dsE.stages = ds.stages
  wm : ∀ b, b < i → dsE.st.wm.testBit b = ds.st.wm.testBit b
  panN : ∀ x, dsE.pan = some x → ds.pan = some x ∨ i ≤ x.1

theorem Later.refl {ops : Array Oper} {i : Nat} {ds : DS} : Later ops i ds ds :=
  ⟨fun _ _ => rfl, ⟨[], rfl, fun x h => by simp at h⟩, fun _ _ h => h, fun _ h => h, fun _ h => h, fun _ _ => rfl, fun _ _ => rfl, fun _ h => .inl h⟩

theorem Later.trans {ops : Array Oper} {i : Nat} {a b c : DS} (h : Later ops i a b) (k : Later ops (i + 1) b c) : Later ops i a c where
  t u hu := (k.t u fun j o hj => hu j o (by omega)).trans (h.t u hu)
  made := by
    obtain ⟨n1, e1, h1⟩ := h.made
    obtain ⟨n2, e2, h2⟩ := k.made
    refine ⟨n2 ++ n1, by rw [e2, e1, List.append_assoc], fun x hx => ?_⟩
    rcases List.mem_append.1 hx with hx | hx
    · have := h2 x hx; omega
    · exact h1 x hx
  st j s e := k.st j s (h.st j s e)
  reads rd e := k.reads rd (h.reads rd e)
  pan x e := k.pan x (h.pan x e)
  fix x e := (k.fix x (h.pan x e)).trans (h.fix x e)
  wm b hb := (k.wm b (by omega)).trans (h.wm b hb)
  panN x e := by
    rcases k.panN x e with e | e
    · exact h.panN x e
    · right; omega

/-- How the stages hang together. -/
def Chain (sz : Nat) (pre : Tree Nat) (s0 : Stage) : List Stage → Prop
  | [] => False
  | [s] => s = s0
  | s' :: s :: rest => (∃ i p, i < sz ∧ pre.get i = some p ∧ s'.abs = Nat.lor p s.abs ∧ s'.wm = Nat.lor (2 ^ i) s.wm ∧ s.wm.testBit i = false) ∧ Chain sz pre s0 (s :: rest)

/-- A block that has been made beside is one that may be written. -/
theorem evA_writable {T : Tab} {t : Tree AVal} {id : Nat} {o : Op} {v : AVal} {k : ABlk} (h : evA T t id o = some (v, k)) : k.writable = true := by
  unfold evA at h
  split at h
  all_goals (repeat' split at h)
  all_goals first
    | (cases h; done)
    | (cases h; rfl)
    | (simp only [Option.map_eq_some_iff] at h; obtain ⟨cs, _, e⟩ := h; cases e; rfl)

structure Inv (ops : Array Oper) (sz : Nat) (pre : Tree Nat) (s0 : Stage) (t0 : Tree AVal) (i : Nat) (ds : DS) : Prop where
  made : ∀ x ∈ ds.made, x.1 < i
  wm : ∀ s ∈ ds.stages, ∀ b, s.wm.testBit b = true → b < i
  chain : Chain sz pre s0 ds.stages
  pan : ∀ x, ds.pan = some x → x.1 < i
  wr : ∀ x ∈ ds.made, x.2.writable = true
  kept : ∀ u, (∀ j o, j < i → ops[j]? = some o → o.dst ≠ some u) → ds.t.get u = t0.get u

def Dst (n : Nat) (o : Oper) (t : Tree AVal) (v : AVal) : Prop := ∀ d, o.dst = some d → d < n ∧ t.get d = some v

inductive Fact (T : Tab) (callF : FuncId → List AVal → AMem → Out AVal) (n : Nat) (ops : Array Oper) (base i : Nat) (o : Oper) (p : Nat) (t : Tree AVal) (ds : DS) : Prop
  | dead (x) (h : ds.pan = some x) (hp : p.testBit x.1 = true) (hs : sideOf ds.made i = none)
  | skip (hw : wantedOp ops t o = some false) (hs : sideOf ds.made i = none) (hm : ds.st.wm.testBit i = false) (hx : ∀ x, ds.pan = some x → x.1 ≠ i) (hd : Dst n o ds.t (.tuple []))
  | p (v) (hw : wantedOp ops t o = some true) (hk : kindOf T o.op = .p) (he : evP T t o.op = some v) (hs : sideOf ds.made i = none) (hm : ds.st.wm.testBit i = false) (hx : ∀ x, ds.pan = some x → x.1 ≠ i) (hd : Dst n o ds.t v)
  | r (v) (hw : wantedOp ops t o = some true) (hk : kindOf T o.op = .r) (kc s) (hst : stageOf ds.stages kc = some s)
      (he : evR T t (view base s.m (Nat.testBit (diff p s.abs)) ds.made).get o.op = some v) (hr : ⟨i, p, o.op, t, v, kc⟩ ∈ ds.reads) (hs : sideOf ds.made i = none) (hm : ds.st.wm.testBit i = false) (hx : ∀ x, ds.pan = some x → x.1 ≠ i) (hd : Dst n o ds.t v)
  | a (v k) (hw : wantedOp ops t o = some true) (hk : kindOf T o.op = .a) (he : evA T t (base + i) o.op = some (v, k)) (hs : sideOf ds.made i = some k) (hm : ds.st.wm.testBit i = false) (hx : ∀ x, ds.pan = some x → x.1 ≠ i) (hd : Dst n o ds.t v)
  | w (v m' k s) (hw : wantedOp ops t o = some true) (hk : kindOf T o.op = .w) (hst : stageOf ds.stages k = some s) (hp : ∀ b, s.wm.testBit b = true → p.testBit b = true)
      (he : evOne T callF t (view base s.m (Nat.testBit (diff p s.abs)) ds.made) o.op = .ok v m') (hst' : stageOf ds.stages (k + 1) = some ⟨m', Nat.lor p s.abs, Nat.lor (2 ^ i) s.wm⟩)
      (hs : sideOf ds.made i = none) (hx : ∀ x, ds.pan = some x → x.1 ≠ i) (hd : Dst n o ds.t v)
  | wp (v m') (hw : wantedOp ops t o = some true) (hk : kindOf T o.op = .w) (hp : ∀ b, ds.st.wm.testBit b = true → p.testBit b = true)
      (he : evOne T callF t (view base ds.st.m (Nat.testBit (diff p ds.st.abs)) ds.made) o.op = .pan v m') (hpan : ds.pan = some (i, v, m')) (hs : sideOf ds.made i = none)

/-- An operation finds in another tree what it found in the first. -/
def Looks (ops : Array Oper) (o : Oper) (t t' : Tree AVal) : Prop := ∀ u ∈ o.looksAt ops, t'.get u = t.get u

theorem Looks.agree {T : Tab} {ops : Array Oper} {o : Oper} {t t' : Tree AVal} (h : Looks ops o t t') : Agree T t t' o.op.operands := by
  intro x hx
  cases x with
  | tmp u =>
    have := h u (List.mem_append_left _ (List.mem_filterMap.2 ⟨.tmp u, by simpa using hx, rfl⟩))
    simp only [ev, this]
  | _ => rfl

theorem Looks.wanted {ops : Array Oper} {o : Oper} {t t' : Tree AVal} (h : Looks ops o t t') : wantedOp ops t' o = wantedOp ops t o := by
  unfold wantedOp
  cases hg : o.guard with
  | none => rfl
  | some g =>
    obtain ⟨j, want⟩ := g
    simp only
    cases hj : ops[j]? with
    | none => rfl
    | some oj =>
      simp only
      cases hd : oj.dst with
      | none => rfl
      | some d =>
        simp only
        rw [h d (List.mem_append_right _ (by simp [hg, hj, hd]))]

section
variable {T : Tab} {callF : FuncId → List AVal → AMem → Out AVal} {n : Nat} {ops : Array Oper} {base : Nat} {pre who : Tree Nat} {s0 : Stage} {t0 : Tree AVal}

theorem putDst_get {t t' : Tree AVal} {d : Option Nat} {v : AVal} (h : putDst n t d v = some t') :
    (∀ u, d ≠ some u → t'.get u = t.get u) ∧ ∀ u, d = some u → u < n ∧ t'.get u = some v := by
  unfold putDst at h
  split at h
  · cases h
    exact ⟨fun _ _ => rfl, fun u e => by cases e⟩
  · split at h
    · rename_i d hb
      cases h
      refine ⟨fun u hu => ?_, fun u e => ?_⟩
      · rw [Tree.get_put, if_neg (fun e => hu (by rw [e]))]
      · cases e
        rw [Tree.get_put, if_pos rfl]
        exact ⟨Nat.lt_of_succ_le (Nat.le_of_ble_eq_true hb), rfl⟩
    · cases h

/-- The frame of a step: a put, and perhaps something more. -/
theorem later_put {i : Nat} {o : Oper} {ds ds' : DS} {v : AVal} (ho : ops[i]? = some o) (ht : putDst n ds.t o.dst v = some ds'.t)
    (hm : ∃ newer, ds'.made = newer ++ ds.made ∧ ∀ x ∈ newer, i ≤ x.1) (hst : ∀ k s, stageOf ds.stages k = some s → stageOf ds'.stages k = some s)
    (hr : ∀ rd ∈ ds.reads, rd ∈ ds'.reads) (hp : ds'.pan = ds.pan) (hfix : ds.pan = none ∨ ds'.stages = ds.stages) (hwm : ∀ b, b < i → ds'.st.wm.testBit b = ds.st.wm.testBit b) : Later ops i ds ds' :=
  ⟨fun u hu => (putDst_get ht).1 u (hu i o (Nat.le_refl _) ho), hm, hst, hr, fun x e => by rw [hp]; exact e, fun x e => by
    rcases hfix with h | h
    · rw [h] at e; cases e
    · exact h, hwm, fun x e => .inl (hp ▸ e)⟩

structure Stat (ops : Array Oper) (pre who : Tree Nat) : Prop where
  pre : ∀ i o, ops[i]? = some o → PreAt pre i o
  who : ∀ i o d, ops[i]? = some o → o.dst = some d → who.get d = some i

/-- The tree that an operation is met with: what came before it is in it, of the rest it is the tree of the start. -/
def Match (ops : Array Oper) (o : Oper) (p : Nat) (t0 t tE : Tree AVal) : Prop :=
  ∀ u ∈ o.looksAt ops, (∀ j oj, ops[j]? = some oj → oj.dst = some u → p.testBit j = true → t.get u = tE.get u) ∧
    ((∀ j oj, ops[j]? = some oj → oj.dst = some u → p.testBit j = false) → t.get u = t0.get u)

def After (T : Tab) (callF : FuncId → List AVal → AMem → Out AVal) (n : Nat) (ops : Array Oper) (base : Nat) (i : Nat) (o : Oper) (p : Nat) (t0 : Tree AVal) (ds' : DS) : Prop :=
  ∀ dsE, Later ops (i + 1) ds' dsE → ∃ t, Match ops o p t0 t dsE.t ∧ Fact T callF n ops base i o p t dsE

def Sees (ops : Array Oper) (pre : Tree Nat) (i : Nat) (o : Oper) (p : Nat) : Prop :=
  ∀ u ∈ o.looksAt ops, ∀ j oj, ops[j]? = some oj → oj.dst = some u → p.testBit j = true ∨ ∃ pj, pre.get j = some pj ∧ pj.testBit i = true

theorem drawStep_ok (hS : Stat ops pre who) {i : Nat} {o : Oper} {ds ds' : DS} (ho : ops[i]? = some o) (hi : Inv ops ops.size pre s0 t0 i ds) (h : drawStep T callF n ops base pre who i o ds = .ok ds') :
    Later ops i ds ds' ∧ Inv ops ops.size pre s0 t0 (i + 1) ds' ∧ ∃ p, pre.get i = some p ∧ Sees ops pre i o p ∧ After T callF n ops base i o p t0 ds' := by
  have hisz : i < ops.size := (Array.getElem?_eq_some_iff.1 ho).1
  obtain ⟨p0, hp0, hbits, _⟩ := hS.pre i o ho
  have keep0 : ∀ u, (∀ j o, j < i + 1 → ops[j]? = some o → o.dst ≠ some u) → ds.t.get u = t0.get u := fun u hu => hi.kept u fun j o hj => hu j o (by omega)
  have keep1 : ∀ {t' : Tree AVal} {v : AVal}, putDst n ds.t o.dst v = some t' → ∀ u, (∀ j o, j < i + 1 → ops[j]? = some o → o.dst ≠ some u) → t'.get u = t0.get u := by
    intro t' v hput u hu
    rw [(putDst_get hput).1 u (hu i o (by omega) ho)]
    exact keep0 u hu
  have invM : ∀ x ∈ ds.made, x.1 < i + 1 := fun x hx => Nat.lt_succ_of_lt (hi.made x hx)
  have invW : ∀ s ∈ ds.stages, ∀ b, s.wm.testBit b = true → b < i + 1 := fun s hs b hb => Nat.lt_succ_of_lt (hi.wm s hs b hb)
  have invP : ∀ x, ds.pan = some x → x.1 < i + 1 := fun x hx => Nat.lt_succ_of_lt (hi.pan x hx)
  unfold drawStep at h
  rw [hp0] at h
  simp only at h
  split at h
  · cases h
  · rename_i hlooks
    have sees : Sees ops pre i o p0 := fun u hu j oj hj hd => looksOk_spec hlooks u hu j (hS.who j oj u hj hd)
    have mtch : ∀ {dsx dsE : DS}, Later ops (i + 1) dsx dsE → (∀ u, o.dst ≠ some u → dsx.t.get u = ds.t.get u) → Match ops o p0 t0 ds.t dsE.t := by
      intro dsx dsE hl hput u hu
      refine ⟨fun j oj hj hd hb => ?_, fun hno => ?_⟩
      · have hji := (hbits j hb).1
        have uniq : ∀ j' oj', ops[j']? = some oj' → oj'.dst = some u → j' = j := by
          intro j' oj' hj' hd'
          have e1 := hS.who j oj u hj hd
          have e2 := hS.who j' oj' u hj' hd'
          rw [e1] at e2
          cases e2
          rfl
        rw [hl.t u fun j' oj' hj' hoj' hd' => by have := uniq j' oj' hoj' hd'; omega]
        exact (hput u fun hd' => by have := uniq i o ho hd'; omega).symm
      · refine hi.kept u fun j oj hj hoj hd => ?_
        rcases sees u hu j oj hoj hd with hb | ⟨pj, hpj, hb⟩
        · rw [hno j oj hoj hd] at hb; cases hb
        · obtain ⟨q, hq, hbq, _⟩ := hS.pre j oj hoj
          rw [hpj] at hq
          cases hq
          have := (hbq i hb).1
          omega
    have put : ∀ {t' : Tree AVal} {v : AVal}, putDst n ds.t o.dst v = some t' → ∀ u, o.dst ≠ some u → t'.get u = ds.t.get u := fun hput => (putDst_get hput).1
    have dst : ∀ {t' : Tree AVal} {dsx dsE : DS} {v : AVal}, putDst n ds.t o.dst v = some t' → dsx.t = t' → Later ops (i + 1) dsx dsE → Dst n o dsE.t v := by
      intro t' dsx dsE v hput hx hl d hd
      obtain ⟨h1, h2⟩ := (putDst_get hput).2 d hd
      refine ⟨h1, ?_⟩
      rw [hl.t d fun j oj hj hoj hd' => ?_, hx]
      · exact h2
      · have e1 := hS.who i o d ho hd
        have e2 := hS.who j oj d hoj hd'
        rw [e1] at e2
        cases e2
        omega
    have side : ∀ {dsx dsE : DS}, Later ops (i + 1) dsx dsE → dsx.made = ds.made → sideOf dsE.made i = none := by
      intro dsx dsE hl hx
      obtain ⟨newer, e, hn⟩ := hl.made
      refine sideOf_none _ _ fun x hm => ?_
      rw [e, hx] at hm
      rcases List.mem_append.1 hm with hm | hm
      · have := hn x hm; omega
      · have := hi.made x hm; omega
    have views : ∀ {dsx dsE : DS} (m : AMem) (ab : Nat), Later ops (i + 1) dsx dsE → dsx.made = ds.made → view base m (Nat.testBit (diff p0 ab)) dsE.made = view base m (Nat.testBit (diff p0 ab)) ds.made := by
      intro dsx dsE m ab hl hx
      obtain ⟨newer, e, hn⟩ := hl.made
      rw [e, hx]
      refine view_newer base m _ _ newer fun x hm => ?_
      rw [diff_testBit]
      cases hb : Nat.testBit p0 x.1 with
      | false => rfl
      | true => have := (hbits _ hb).1; have := hn x hm; omega
    have nowm : ∀ {dsx dsE : DS}, Later ops (i + 1) dsx dsE → dsx.st = ds.st → dsE.st.wm.testBit i = false := by
      intro dsx dsE hl hx
      rw [hl.wm i (Nat.lt_succ_self _), hx]
      cases hb : Nat.testBit ds.st.wm i with
      | false => rfl
      | true => exact absurd (hi.wm ds.st (by simp [DS.stages]) i hb) (Nat.lt_irrefl _)
    have nopan : ∀ {dsx dsE : DS}, Later ops (i + 1) dsx dsE → dsx.pan = ds.pan → ∀ x, dsE.pan = some x → x.1 ≠ i := by
      intro dsx dsE hl hx x e
      rcases hl.panN x e with e | e
      · rw [hx] at e; have := hi.pan x e; omega
      · omega
    have same : ∃ newer, ds.made = newer ++ ds.made ∧ ∀ x ∈ newer, i ≤ x.1 := ⟨[], rfl, fun x h => by simp at h⟩
    split at h
    · rename_i hdead
      cases h
      refine ⟨.refl, ⟨invM, invW, hi.chain, invP, hi.wr, keep0⟩, p0, hp0, sees, fun dsE hl => ⟨ds.t, mtch hl (fun _ _ => rfl), ?_⟩⟩
      unfold deadBy at hdead
      split at hdead
      · cases hdead
      · rename_i x hx
        exact .dead x (hl.pan x hx) hdead (side hl rfl)
    · split at h
      · cases h
      · rename_i hw
        split at h
        · cases h
        · rename_i t' hput
          cases h
          refine ⟨later_put (v := .tuple []) ho hput same (fun _ _ e => e) (fun _ e => e) rfl (.inr rfl) (fun _ _ => rfl), ⟨invM, invW, hi.chain, invP, hi.wr, keep1 hput⟩, p0, hp0, sees, fun dsE hl => ⟨ds.t, mtch hl (put hput), ?_⟩⟩
          exact .skip hw (side hl rfl) (nowm hl rfl) (nopan hl rfl) (dst hput rfl hl)
      · rename_i hw
        unfold drawWant at h
        split at h
        · rename_i hk
          split at h
          · cases h
          · rename_i v he
            split at h
            · cases h
            · rename_i t' hput
              cases h
              refine ⟨later_put (v := v) ho hput same (fun _ _ e => e) (fun _ e => e) rfl (.inr rfl) (fun _ _ => rfl), ⟨invM, invW, hi.chain, invP, hi.wr, keep1 hput⟩, p0, hp0, sees, fun dsE hl => ⟨ds.t, mtch hl (put hput), ?_⟩⟩
              exact .p v hw hk he (side hl rfl) (nowm hl rfl) (nopan hl rfl) (dst hput rfl hl)
        · rename_i hk
          split at h
          · cases h
          · rename_i v he
            split at h
            · cases h
            · rename_i t' hput
              cases h
              refine ⟨later_put (v := v) ho hput same (fun _ _ e => e) (fun _ e => by simp [e]) rfl (.inr rfl) (fun _ _ => rfl), ⟨invM, invW, hi.chain, invP, hi.wr, keep1 hput⟩, p0, hp0, sees, fun dsE hl => ⟨ds.t, mtch hl (put hput), ?_⟩⟩
              refine .r v hw hk ds.old.length ds.st (hl.st _ _ (by simp [DS.stages, stageOf])) ?_ (hl.reads _ (by simp)) (side hl rfl) (nowm hl rfl) (nopan hl rfl) (dst hput rfl hl)
              rw [views _ _ hl rfl]
              exact he
        · rename_i hk
          split at h
          · cases h
          · rename_i v b he
            split at h
            · cases h
            · rename_i t' hput
              cases h
              refine ⟨later_put (v := v) ho hput ⟨[(i, b)], rfl, fun x hx => by simp at hx; rw [hx]; exact Nat.le_refl _⟩ (fun _ _ e => e) (fun _ e => e) rfl (.inr rfl) (fun _ _ => rfl),
                ⟨fun x hx => by
                  rcases List.mem_cons.1 hx with rfl | hx
                  · exact Nat.lt_succ_self _
                  · exact invM x hx, invW, hi.chain, invP, fun x hx => by
                  rcases List.mem_cons.1 hx with rfl | hx
                  · exact evA_writable he
                  · exact hi.wr x hx, keep1 hput⟩, p0, hp0, sees, fun dsE hl => ⟨ds.t, mtch hl (put hput), ?_⟩⟩
              refine .a v b hw hk he ?_ (nowm hl rfl) (nopan hl rfl) (dst hput rfl hl)
              obtain ⟨newer, e, hn⟩ := hl.made
              rw [e, sideOf_newer _ _ newer fun x hx => by have := hn x hx; omega]
              simp [sideOf]
        · rename_i hk
          split at h
          · cases h
          · rename_i hpan
            split at h
            · cases h
            · rename_i hwm
              have hp : ∀ b, ds.st.wm.testBit b = true → p0.testBit b = true := by
                intro b hb
                have e := Nat.eq_of_beq_eq_true hwm
                rw [← e, land_testBit] at hb
                simp at hb
                exact hb.1
              split at h
              · rename_i v m' he
                split at h
                · cases h
                · rename_i t' hput
                  cases h
                  refine ⟨later_put (v := v) ho hput same (fun _ _ e => stageOf_cons e) (fun _ e => e) rfl (.inl hpan) (fun b hb => by show (Nat.lor (2 ^ i) ds.st.wm).testBit b = _; rw [lor_testBit, two_testBit, decide_eq_false (by omega)]; rfl), ⟨invM, ?_, ?_, invP, hi.wr, keep1 hput⟩, p0, hp0, sees, fun dsE hl => ⟨ds.t, mtch hl (put hput), ?_⟩⟩
                  · intro s hs b hb
                    rcases List.mem_cons.1 hs with rfl | hs
                    · rw [lor_testBit, two_testBit] at hb
                      simp at hb
                      rcases hb with rfl | hb
                      · exact Nat.lt_succ_self _
                      · exact invW ds.st (by simp [DS.stages]) b hb
                    · exact invW s hs b hb
                  · refine ⟨⟨i, p0, hisz, hp0, rfl, rfl, ?_⟩, hi.chain⟩
                    cases hb : Nat.testBit ds.st.wm i with
                    | false => rfl
                    | true => exact absurd (hi.wm ds.st (by simp [DS.stages]) i hb) (Nat.lt_irrefl _)
                  · refine .w v m' ds.old.length ds.st hw hk (hl.st _ _ ?_) hp ?_ (hl.st _ _ ?_) (side hl rfl) (nopan hl rfl) (dst hput rfl hl)
                    · simp [DS.stages, stageOf]
                    · rw [views _ _ hl rfl]
                      exact he
                    · simp [DS.stages, stageOf]
              · rename_i v m' he
                cases h
                refine ⟨⟨fun _ _ => rfl, same, fun _ _ e => e, fun _ e => e, fun x e => ?_, fun x e => ?_, fun _ _ => rfl, fun x e => by cases e; exact .inr (Nat.le_refl _)⟩, ⟨invM, invW, hi.chain, fun x hx => ?_, hi.wr, keep0⟩, p0, hp0, sees, fun dsE hl => ⟨ds.t, mtch hl (fun _ _ => rfl), ?_⟩⟩
                · rw [hpan] at e; cases e
                · rw [hpan] at e; cases e
                · cases hx; exact Nat.lt_succ_self _
                · have hst : dsE.stages = ds.stages := hl.fix _ rfl
                  have hst2 : dsE.st = ds.st := by
                    have := congrArg (fun l => l.head?) hst
                    simpa [DS.stages] using this
                  refine .wp v m' hw hk (by rw [hst2]; exact hp) ?_ (hl.pan _ rfl) (side hl rfl)
                  rw [hst2, views _ _ hl rfl]
                  exact he
              · cases h
              · cases h

theorem drawOps_ok (hS : Stat ops pre who) : ∀ (rest : List Oper) (i : Nat) (ds dsE : DS), ops.toList.drop i = rest → Inv ops ops.size pre s0 t0 i ds → drawOps T callF n ops base pre who rest i ds = .ok dsE →
    Later ops i ds dsE ∧ Inv ops ops.size pre s0 t0 (i + rest.length) dsE ∧ ∀ j o, i ≤ j → ops[j]? = some o → ∃ p, pre.get j = some p ∧ Sees ops pre j o p ∧ ∃ t, Match ops o p t0 t dsE.t ∧ Fact T callF n ops base j o p t dsE
  | [], i, ds, dsE, hk, hi, h => by
    simp only [drawOps] at h
    cases h
    refine ⟨.refl, hi, fun j o hj ho => ?_⟩
    have : ops.toList.length ≤ i := by
      rcases Nat.lt_or_ge i ops.toList.length with c | c
      · have := congrArg List.length hk
        rw [List.length_drop] at this
        simp only [List.length_nil] at this
        omega
      · exact c
    have := (Array.getElem?_eq_some_iff.1 ho).1
    simp at *
    omega
  | o :: rest, i, ds, dsE, hk, hi, h => by
    have ho : ops[i]? = some o := by
      rw [← Array.getElem?_toList]
      have := congrArg (fun l => l[0]?) hk
      simpa [List.getElem?_drop] using this
    have hk2 : ops.toList.drop (i + 1) = rest := by
      have := congrArg (fun l => l.drop 1) hk
      simpa [List.drop_drop] using this
    simp only [drawOps] at h
    split at h
    · rename_i ds' hs
      obtain ⟨l1, i1, p, hp, hsee, ha⟩ := drawStep_ok hS ho hi hs
      obtain ⟨l2, i2, f2⟩ := drawOps_ok hS rest (i + 1) ds' dsE hk2 i1 h
      refine ⟨l1.trans l2, by rw [List.length_cons]; rw [show i + (rest.length + 1) = i + 1 + rest.length by omega]; exact i2, fun j oj hj hoj => ?_⟩
      by_cases e : j = i
      · subst e
        rw [ho] at hoj
        cases hoj
        exact ⟨p, hp, hsee, ha dsE l2⟩
      · exact f2 j oj (by omega) hoj
    · cases h
end
end Ev
end Go.Proofs.YtjmapihogpdocaaGreatDoor

/-! ## EvDraw3 -/
namespace Go.Proofs.YtjmapihogpdocaaGreatDoor
namespace Ev
open Go

theorem Step.trans' {r r1 r2 : Ren} {n n1 nk n2 : Nat} {g g1 g2 : Nat → Option ABlk} {w w1 w2 : World} (h : Step r n g w r1 n1 g1 w1) (k : Step r1 nk g1 w1 r2 n2 g2 w2) (hn : n ≤ nk) :
    Step r n g w r2 n2 g2 w2 where
  le := Ren.le_trans h.le k.le
  mem := k.mem
  next := Nat.le_trans hn k.next
  os := k.os.trans h.os
  tape := k.tape.trans h.tape
  output := k.output.trans h.output
  size := Nat.le_trans h.size k.size
  keep := by
    intro cb hc hno
    rw [k.keep cb (Nat.lt_of_lt_of_le hc h.size) ?_]
    · exact h.keep cb hc hno
    · intro b x B hb hx hB e
      rcases h.own b x B hb hB with h1 | ⟨b0, k0, B0, h1, h2, h3, h4⟩
      · omega
      · exact hno b0 k0 B0 h1 (h4 hx) h2 (by rw [h3, e])
  own := by
    intro b x B hb hB
    rcases k.own b x B hb hB with h1 | ⟨b0, k0, B0, h1, h2, h3, h4⟩
    · left; exact Nat.le_trans h.size h1
    · rcases h.own b0 k0 B0 h1 h2 with z | ⟨b1, k1, B1, z1, z2, z3, z4⟩
      · left; rw [← h3]; exact z
      · right; exact ⟨b1, k1, B1, z1, z2, z3.trans h3, fun e => z4 (h4 e)⟩
  new := by
    intro b B hB
    rcases k.new b B hB with h1 | h1
    · exact h.new b B h1
    · right; exact Nat.le_trans hn h1

/-- A step in a part of the memory is one in the whole of it. -/
theorem Step.frame {r r' : Ren} {n n' : Nat} {g v v' g' : Nat → Option ABlk} {w w' : World} (hm : MemRel r n g w) (hv : ∀ b k, v b = some k → g b = some k) (h : Step r n v w r' n' v' w')
    (hg : ∀ b k, g' b = some k → v' b = some k ∨ (v b = none ∧ g b = some k)) : Step r n g w r' n' g' w' where
  le := h.le
  next := h.next
  os := h.os
  tape := h.tape
  output := h.output
  size := h.size
  keep := fun cb hc hno => h.keep cb hc fun b k B hb hk hB => hno b k B (hv b k hb) hk hB
  own := by
    intro b k B hb hB
    rcases hg b k hb with h1 | ⟨h1, h2⟩
    · rcases h.own b k B h1 hB with z | ⟨b0, k0, B0, z1, z2, z3, z4⟩
      · exact .inl z
      · exact .inr ⟨b0, k0, B0, hv _ _ z1, z2, z3, z4⟩
    · obtain ⟨B1, e1, _⟩ := hm.blk b k h2
      have := h.le b B1 e1
      rw [hB] at this
      cases this
      exact .inr ⟨b, k, B, h2, e1, rfl, id⟩
  new := h.new
  mem := by
    have rest : ∀ b k B, g b = some k → r'.at_ b = some B → r.at_ b = some B := by
      intro b k B hb hB
      obtain ⟨B1, e1, _⟩ := hm.blk b k hb
      have := h.le b B1 e1
      rw [hB] at this
      cases this
      exact e1
    refine ⟨h.mem.fresh, h.mem.inw, ?_, ?_, ?_⟩
    · intro b k hb
      rcases hg b k hb with h1 | ⟨h1, h2⟩
      · exact h.mem.blk b k h1
      · obtain ⟨B, e1, e2⟩ := hm.blk b k h2
        refine ⟨B, h.le b B e1, e2.mono h.le ?_⟩
        refine h.keep B.cb (hm.inw b B e1) fun b0 k0 B0 z1 z2 z3 z4 => ?_
        have := hm.inj b0 k0 b k B0 B (hv _ _ z1) h2 z3 e1 z2 z4
        rw [this, h1] at z1
        cases z1
    · intro b1 k1 b2 k2 B1 B2 g1 g2 r1 r2 hw hc
      rcases hg b1 k1 g1 with x1 | ⟨x1, y1⟩
      · rcases hg b2 k2 g2 with x2 | ⟨x2, y2⟩
        · exact h.mem.inj b1 k1 b2 k2 B1 B2 x1 x2 r1 r2 hw hc
        · have e2 := rest b2 k2 B2 y2 r2
          rcases h.own b1 k1 B1 x1 r1 with z | ⟨b0, k0, B0, z1, z2, z3, z4⟩
          · have := hm.inw b2 B2 e2
            omega
          · have := hm.inj b0 k0 b2 k2 B0 B2 (hv _ _ z1) y2 z2 e2 (z4 hw) (z3.trans hc)
            rw [this, x2] at z1
            cases z1
      · have e1 := rest b1 k1 B1 y1 r1
        rcases hg b2 k2 g2 with x2 | ⟨x2, y2⟩
        · rcases h.own b2 k2 B2 x2 r2 with z | ⟨b0, k0, B0, z1, z2, z3, z4⟩
          · have := hm.inw b1 B1 e1
            omega
          · have := hm.inj b1 k1 b0 k0 B1 B0 y1 (hv _ _ z1) e1 z2 hw (hc.trans z3.symm)
            rw [← this, x1] at z1
            cases z1
        · exact hm.inj b1 k1 b2 k2 B1 B2 y1 y2 e1 (rest b2 k2 B2 y2 r2) hw hc
    · intro b B e vs ro frz hb hB
      rcases hg b _ hb with h1 | ⟨h1, h2⟩
      · exact h.mem.whole b B e vs ro frz h1 hB
      · exact hm.whole b B e vs ro frz h2 (rest b _ B h2 hB)

/-- A block made under a name that had been kept for it. -/
theorem Made.beside {r : Ren} {id n base : Nat} {g : Nat → Option ABlk} {w w' : World} {k : ABlk} {v : AVal} {v' : Value} {B : Blk} (h : Made r id w k v v' w' B) (hm : MemRel r n g w)
    (hid : r.at_ id = none) (hg : g id = none) (hin : id < n) (hb : base ≤ id) : Step r base g w (r.ext id B) n (upd g id k) w' := by
  obtain ⟨hle, hmem⟩ := h.step (n' := n) hm hid hg (Nat.le_refl _) hin
  obtain ⟨o, ho⟩ := h.heap
  refine ⟨hle, hmem, by omega, h.os, h.tape, h.output, by rw [ho, Array.size_push]; exact Nat.le_succ _, ?_, ?_, ?_⟩
  · intro cb hc _
    rw [ho, Array.getElem?_push, if_neg (by omega)]
  · intro b k' B' hb hB
    simp only [upd] at hb
    by_cases e : b = id
    · left; rw [e, Ren.ext_same] at hB; cases hB; rw [h.cb]; exact Nat.le_refl _
    · rw [if_neg e] at hb
      right
      have : r.at_ b = some B' := by simpa [Ren.ext, e] using hB
      exact ⟨b, k', B', hb, this, rfl, fun e => e⟩
  · intro b B' hB
    by_cases e : b = id
    · right; omega
    · left; simpa [Ren.ext, e] using hB

/-! ### The reads, at every stage -/
section
variable {T : Tab} {base : Nat} {made : List (Nat × ABlk)} {wmE : Nat}

theorem stagesOk_spec {reads : List Rd} : ∀ {l : List Stage}, stagesOk T base made wmE reads l = true → ∀ k s, stageOf l k = some s → readsOk T base made wmE k s reads = true
  | [], _, k, s, h => by simp [stageOf] at h
  | x :: rest, h0, k, s, h => by
    simp only [stagesOk] at h0
    split at h0
    · rename_i h1
      simp only [stageOf] at h
      split at h
      · rename_i e; cases h; rw [e]; exact h1
      · exact stagesOk_spec h0 k s h
    · cases h0

theorem readsOk_spec {k : Nat} {s : Stage} : ∀ {rds : List Rd}, readsOk T base made wmE k s rds = true → ∀ rd ∈ rds, readOk T base made wmE k s rd = true
  | [], _, rd, h => by simp at h
  | x :: rest, h0, rd, h => by
    simp only [readsOk] at h0
    split at h0
    · rename_i h1
      rcases List.mem_cons.1 h with rfl | h
      · exact h1
      · exact readsOk_spec h0 rd h
    · cases h0

theorem readOk_spec {k : Nat} {s : Stage} {rd : Rd} (h : readOk T base made wmE k s rd = true) (hk : k ≠ rd.kc) (ha : s.abs.testBit rd.i = false)
    (hw : ∀ b, rd.p.testBit b = true → wmE.testBit b = true → s.wm.testBit b = true) : evR T rd.t (view base s.m (Nat.testBit (diff rd.p s.abs)) made).get rd.op = some rd.v := by
  unfold readOk at h
  split at h
  · rename_i e
    exact absurd (Nat.eq_of_beq_eq_true e) hk
  · split at h
    · rename_i e
      rw [ha] at e
      cases e
    · split at h
      · rename_i e
        exfalso
        have : Nat.land (Nat.land rd.p wmE) s.wm = Nat.land rd.p wmE := by
          apply Nat.eq_of_testBit_eq
          intro b
          rw [land_testBit, land_testBit]
          cases h1 : Nat.testBit rd.p b with
          | false => rfl
          | true =>
            cases h2 : Nat.testBit wmE b with
            | false => rfl
            | true => rw [hw b h1 h2]; rfl
        rw [this, Nat.beq_refl] at e
        cases e
      · split at h
        · rename_i v e
          rw [e, sameF_eq 100 h]
        · cases h
end

/-! ### The stages -/
theorem Chain.next {sz : Nat} {pre : Tree Nat} {s0 : Stage} : ∀ {l : List Stage}, Chain sz pre s0 l → ∀ {k : Nat} {s s' : Stage}, stageOf l k = some s → stageOf l (k + 1) = some s' →
    ∃ i p, i < sz ∧ pre.get i = some p ∧ s'.abs = Nat.lor p s.abs ∧ s'.wm = Nat.lor (2 ^ i) s.wm ∧ s.wm.testBit i = false
  | [], h, _, _, _, _, _ => h.elim
  | [x], _, k, s, s', h1, h2 => by
    have := stageOf_lt h2
    simp at this
  | x :: y :: rest, h, k, s, s', h1, h2 => by
    have hl := stageOf_lt h2
    simp only [stageOf] at h2
    split at h2
    · rename_i e
      cases h2
      have hk : k = rest.length := by simp at e; exact e
      simp only [stageOf] at h1
      rw [if_neg (by simp; omega), if_pos hk] at h1
      cases h1
      exact h.1
    · rename_i e
      have h3 : stageOf (y :: rest) k = some s := by
        have : k ≠ (y :: rest).length := by simp at e hl ⊢; omega
        rw [stageOf, if_neg this] at h1
        exact h1
      exact Chain.next h.2 h3 h2

theorem Chain.first {sz : Nat} {pre : Tree Nat} {s0 : Stage} : ∀ {l : List Stage}, Chain sz pre s0 l → stageOf l 0 = some s0
  | [], h => h.elim
  | [x], h => by simp only [Chain] at h; simp [stageOf, h]
  | x :: y :: rest, h => stageOf_cons (Chain.first h.2)

theorem Chain.mono {sz : Nat} {pre : Tree Nat} {s0 : Stage} {l : List Stage} (h : Chain sz pre s0 l) {k : Nat} {s : Stage} (hs : stageOf l k = some s) : ∀ (d : Nat) {s' : Stage}, stageOf l (k + d) = some s' → ∀ b, s.wm.testBit b = true → s'.wm.testBit b = true
  | 0, s', h1, b, hb => by
    rw [Nat.add_zero, hs] at h1
    cases h1
    exact hb
  | d + 1, s', h1, b, hb => by
    obtain ⟨s1, e1⟩ : ∃ s1, stageOf l (k + d) = some s1 := stageOf_some (by have := stageOf_lt h1; omega)
    obtain ⟨i, p, _, _, _, e2, _⟩ := h.next e1 h1
    rw [e2, lor_testBit, h.mono hs d e1 b hb]
    simp
end Ev
end Go.Proofs.YtjmapihogpdocaaGreatDoor

/-! ## EvDraw4 -/
namespace Go.Proofs.YtjmapihogpdocaaGreatDoor
namespace Ev
open Go
variable {D : Keep}

theorem mix_all (t t0 : Tree AVal) : ∀ L : List Nat, ∃ t' : Tree AVal, ∀ u, t'.get u = if u ∈ L then t0.get u else t.get u
  | [] => ⟨t, fun u => by simp⟩
  | x :: L => by
    obtain ⟨t', h⟩ := mix_all t t0 L
    refine ⟨t'.set x (t0.get x), fun u => ?_⟩
    rw [Tree.get_set]
    by_cases e : x = u
    · subst e; simp
    · rw [if_neg e, h u]
      have : ¬ u = x := fun c => e c.symm
      simp [this]

/-- Where a drawn order stands: the operations of S are done. -/
structure Sch (D : Keep) (T : Tab) (n : Nat) (ops : Array Oper) (pre : Tree Nat) (t0 : Tree AVal) (base : Nat) (ds : DS) (r0 : Ren) (g0 : Nat → Option ABlk) (w0 : World)
    (S : Nat → Bool) (k : Nat) (s : Stage) (r : Ren) (a : Act) (w : World) : Prop where
  closed : ∀ i o p, ops[i]? = some o → S i = true → pre.get i = some p → ∀ b, p.testBit b = true → S b = true
  stage : stageOf ds.stages k = some s
  wm : ∀ b, s.wm.testBit b = true → S b = true
  wmE : ∀ b, S b = true → ds.st.wm.testBit b = true → s.wm.testBit b = true
  abs : ∀ b, s.abs.testBit b = true → S b = true
  pan : ∀ x, ds.pan = some x → S x.1 = false
  names : ∀ q, q < ops.size → S q = false → r.at_ (base + q) = none
  clear : ∀ q b, sideOf ds.made q = some b → s.abs.testBit q = false → s.m.get (base + q) = none
  big : base + ops.size ≤ s.m.next
  glob : GlobOk T r
  size : a.tmps.size = n
  calm : D.calm a
  free : D.frees ops
  tmps : ∀ u v, ds.t.get u = some v → (∀ j o, ops[j]? = some o → o.dst = some u → S j = true) → VRel r v (a.tmps.getD u undef)
  old : ∀ u v, t0.get u = some v → ∀ j o, ops[j]? = some o → o.dst = some u → S j = false → VRel r v (a.tmps.getD u undef)
  step : Step r0 base g0 w0 r s.m.next (view base s.m (fun q => S q && !s.abs.testBit q) ds.made).get w

def with_ (S : Nat → Bool) (i : Nat) : Nat → Bool := fun q => if q = i then true else S q
theorem with_self (S : Nat → Bool) (i : Nat) : with_ S i i = true := by simp [with_]
theorem with_old {S : Nat → Bool} {i q : Nat} (h : S q = true) : with_ S i q = true := by simp [with_, h]
theorem with_ne {S : Nat → Bool} {i q : Nat} (h : q ≠ i) : with_ S i q = S q := by simp [with_, h]
theorem with_false {S : Nat → Bool} {i q : Nat} (h : with_ S i q = false) : q ≠ i ∧ S q = false := by
  by_cases e : q = i
  · subst e; rw [with_self] at h; cases h
  · rw [with_ne e] at h; exact ⟨e, h⟩
theorem with_true {S : Nat → Bool} {i q : Nat} (h : with_ S i q = true) : q = i ∨ S q = true := by
  by_cases e : q = i
  · exact .inl e
  · rw [with_ne e] at h; exact .inr h

section
variable {T : Tab} {P : Program} {callF : FuncId → List AVal → AMem → Out AVal} {n : Nat} {ops : Array Oper} {base : Nat} {pre who : Tree Nat} {s0 : Stage} {t0 : Tree AVal} {ds : DS}
  {r0 : Ren} {g0 : Nat → Option ABlk} {w0 : World} {S : Nat → Bool} {k : Nat} {s : Stage} {r : Ren} {a : Act} {w : World}

theorem Sch.tree (hS : Stat ops pre who) (hold : ∀ u, (∀ (j : Nat) (o : Oper), ops[j]? = some o → o.dst ≠ some u) → ds.t.get u = t0.get u) (h : Sch D T n ops pre t0 base ds r0 g0 w0 S k s r a w)
    {i : Nat} {o : Oper} {p : Nat} {t : Tree AVal} (hSi : S i = false) (hsee : Sees ops pre i o p) (hm : Match ops o p t0 t ds.t) (hp : ∀ b, p.testBit b = true → S b = true) :
    ∃ t', TRel D r t' n a ∧ Looks ops o t t' := by
  have uniq : ∀ (u j : Nat) (oj : Oper) (j' : Nat) (oj' : Oper), ops[j]? = some oj → oj.dst = some u → ops[j']? = some oj' → oj'.dst = some u → j' = j := by
    intro u j oj j' oj' hj hd hj' hd'
    have e1 := hS.who j oj u hj hd
    have e2 := hS.who j' oj' u hj' hd'
    rw [e1] at e2
    cases e2
    rfl
  obtain ⟨t', ht⟩ := mix_all ds.t t0 ((List.range ops.size).filterMap fun j => if S j then none else (ops[j]?).bind (·.dst))
  have mem : ∀ u, u ∈ ((List.range ops.size).filterMap fun j => if S j then none else (ops[j]?).bind (·.dst)) ↔ ∃ j o, S j = false ∧ ops[j]? = some o ∧ o.dst = some u := by
    intro u
    rw [List.mem_filterMap]
    constructor
    · rintro ⟨j, _, hj⟩
      cases hs : S j with
      | true => simp [hs] at hj
      | false =>
        simp only [hs, Bool.false_eq_true, if_false] at hj
        cases ho : ops[j]? with
        | none => simp [ho] at hj
        | some o => exact ⟨j, o, hs, ho, by simpa [ho] using hj⟩
    · rintro ⟨j, o, hs, ho, hd⟩
      exact ⟨j, List.mem_range.2 (Array.getElem?_eq_some_iff.1 ho).1, by simp [hs, ho, hd]⟩
  refine ⟨t', ⟨h.size, fun u v e => ?_, h.calm⟩, fun u hu => ?_⟩
  · rw [ht] at e
    split at e
    · rename_i hn
      obtain ⟨j, oj, hs, ho, hd⟩ := (mem u).1 hn
      exact h.old u v e j oj ho hd hs
    · rename_i hn
      refine h.tmps u v e fun j o ho hd => ?_
      cases hs : S j with
      | true => rfl
      | false => exact absurd ((mem u).2 ⟨j, o, hs, ho, hd⟩) hn
  · rw [ht]
    split
    · rename_i hn
      obtain ⟨j, oj, hs, ho, hd⟩ := (mem u).1 hn
      refine ((hm u hu).2 fun j' oj' ho' hd' => ?_).symm
      have := uniq u j oj j' oj' ho hd ho' hd'
      subst this
      cases hb : Nat.testBit p j' with
      | false => rfl
      | true => rw [hp j' hb] at hs; cases hs
    · rename_i hn
      by_cases c : ∃ (j : Nat) (oj : Oper), ops[j]? = some oj ∧ oj.dst = some u
      · obtain ⟨j, oj, ho, hd⟩ := c
        have hSj : S j = true := by
          cases hs : S j with
          | true => rfl
          | false => exact absurd ((mem u).2 ⟨j, oj, hs, ho, hd⟩) hn
        rcases hsee u hu j oj ho hd with hb | ⟨pj, hpj, hb⟩
        · exact ((hm u hu).1 j oj ho hd hb).symm
        · have := h.closed j oj pj ho hSj hpj i hb
          rw [hSi] at this
          cases this
      · rw [hold u fun j oj ho hd => c ⟨j, oj, ho, hd⟩]
        exact ((hm u hu).2 fun j oj ho hd => absurd ⟨j, oj, ho, hd⟩ c).symm

theorem Sch.after (hS : Stat ops pre who) (h : Sch D T n ops pre t0 base ds r0 g0 w0 S k s r a w) {i : Nat} {o : Oper} {p : Nat} (ho : ops[i]? = some o) (hpi : pre.get i = some p) (hp : ∀ b, p.testBit b = true → S b = true)
    {k' : Nat} {s' : Stage} {r' : Ren} {w' : World} {v : AVal} {v' : Value} (hst : stageOf ds.stages k' = some s') (hle : r.le r') (hv : VRel r' v v') (hd : Dst n o ds.t v)
    (hwm : ∀ b, s'.wm.testBit b = true → with_ S i b = true) (hwmE : ∀ b, with_ S i b = true → ds.st.wm.testBit b = true → s'.wm.testBit b = true) (habs : ∀ b, s'.abs.testBit b = true → with_ S i b = true)
    (hpan : ∀ x, ds.pan = some x → x.1 ≠ i) (hnames : ∀ q, q < ops.size → q ≠ i → r.at_ (base + q) = none → r'.at_ (base + q) = none)
    (hclear : ∀ q b, sideOf ds.made q = some b → s'.abs.testBit q = false → s'.m.get (base + q) = none) (hbig : base + ops.size ≤ s'.m.next)
    (hstep : Step r0 base g0 w0 r' s'.m.next (view base s'.m (fun q => with_ S i q && !s'.abs.testBit q) ds.made).get w') :
    Sch D T n ops pre t0 base ds r0 g0 w0 (with_ S i) k' s' r' (a.put o.dst v') w' where
  closed := by
    intro j oj q hoj hj hq b hb
    by_cases e : j = i
    · subst e
      rw [hpi] at hq
      cases hq
      exact with_old (hp b hb)
    · rw [with_ne e] at hj
      exact with_old (h.closed j oj q hoj hj hq b hb)
  stage := hst
  wm := hwm
  wmE := hwmE
  abs := habs
  pan := fun x hx => by rw [with_ne (hpan x hx)]; exact h.pan x hx
  names := fun q hq hs => hnames q hq (with_false hs).1 (h.names q hq (with_false hs).2)
  clear := hclear
  big := hbig
  glob := h.glob.mono hle
  size := by
    have := h.size
    cases o.dst <;> simpa [Act.put] using this
  calm := h.calm.put (fun d e => h.free i o d ho e) v'
  free := h.free
  tmps := by
    intro u x hx hall
    have hs := h.size
    cases hod : o.dst with
    | none =>
      refine (h.tmps u x hx fun j oj hoj hdj => ?_).mono hle
      rcases with_true (hall j oj hoj hdj) with e | e
      · subst e; rw [ho] at hoj; cases hoj; rw [hod] at hdj; cases hdj
      · exact e
    | some d =>
      simp only [Act.put]
      obtain ⟨hdn, hdv⟩ := hd d hod
      by_cases c : d = u
      · subst c
        rw [hdv] at hx
        cases hx
        rw [Array.getD_eq_getD_getElem?, Array.getElem?_setIfInBounds, if_pos rfl, if_pos (by rw [hs]; exact hdn)]
        exact hv
      · rw [Array.getD_eq_getD_getElem?, Array.getElem?_setIfInBounds, if_neg c, ← Array.getD_eq_getD_getElem?]
        refine (h.tmps u x hx fun j oj hoj hdj => ?_).mono hle
        rcases with_true (hall j oj hoj hdj) with e | e
        · subst e; rw [ho] at hoj; cases hoj; rw [hod] at hdj; cases hdj; exact absurd rfl c
        · exact e
  old := by
    intro u x hx j oj hoj hdj hSj
    obtain ⟨hji, hSj⟩ := with_false hSj
    have hold := (h.old u x hx j oj hoj hdj hSj).mono hle
    cases hod : o.dst with
    | none => exact hold
    | some d =>
      have hne : d ≠ u := by
        intro c
        subst c
        have e1 := hS.who i o d ho hod
        have e2 := hS.who j oj d hoj hdj
        rw [e1] at e2
        cases e2
        exact hji rfl
      simp only [Act.put]
      rw [Array.getD_eq_getD_getElem?, Array.getElem?_setIfInBounds, if_neg hne, ← Array.getD_eq_getD_getElem?]
      exact hold
  step := hstep

/-- One that makes no block and writes nothing. -/
theorem Sch.quiet (hS : Stat ops pre who) (h : Sch D T n ops pre t0 base ds r0 g0 w0 S k s r a w) {i : Nat} {o : Oper} {p : Nat} (ho : ops[i]? = some o) (hpi : pre.get i = some p) (hp : ∀ b, p.testBit b = true → S b = true)
    {v : AVal} {v' : Value} (hv : VRel r v v') (hd : Dst n o ds.t v) (hs : sideOf ds.made i = none) (hm : ds.st.wm.testBit i = false) (hx : ∀ x, ds.pan = some x → x.1 ≠ i) :
    Sch D T n ops pre t0 base ds r0 g0 w0 (with_ S i) k s r (a.put o.dst v') w := by
  refine h.after hS ho hpi hp h.stage r.le_refl hv hd (fun b hb => with_old (h.wm b hb)) (fun b hb hE => ?_) (fun b hb => with_old (h.abs b hb)) hx (fun _ _ _ e => e) h.clear h.big ?_
  · rcases with_true hb with e | e
    · subst e; rw [hm] at hE; cases hE
    · exact h.wmE b e hE
  · refine (h.step.trans' (Step.sub h.step.mem fun b k hb => ?_) (by have := h.big; omega))
    rcases view_cases hb with ⟨q, e, hf, hsd⟩ | ⟨hb, hno⟩
    · rw [e]
      refine view_side ?_ hsd
      have : q ≠ i := by intro c; rw [c, hs] at hsd; cases hsd
      rw [with_ne this] at hf
      exact hf
    · rw [view_main fun q e hf => hno q e ?_]
      · exact hb
      · simp only [Bool.and_eq_true] at hf ⊢
        exact ⟨with_old hf.1, hf.2⟩

/-- What an operation that is ready sees of the memory. -/
theorem Sch.sees (h : Sch D T n ops pre t0 base ds r0 g0 w0 S k s r a w) {p : Nat} (hp : ∀ b, p.testBit b = true → S b = true) :
    ∀ b x, (view base s.m (Nat.testBit (diff p s.abs)) ds.made).get b = some x → (view base s.m (fun q => S q && !s.abs.testBit q) ds.made).get b = some x := by
  intro b x hb
  rcases view_cases hb with ⟨q, e, hf, hsd⟩ | ⟨hb, hno⟩
  · rw [e]
    refine view_side ?_ hsd
    rw [diff_testBit, Bool.and_eq_true] at hf
    simp only [Bool.and_eq_true]
    exact ⟨hp q hf.1, hf.2⟩
  · rw [view_main]
    · exact hb
    · intro q e hf
      simp only [Bool.and_eq_true, Bool.not_eq_true'] at hf
      cases hsd : sideOf ds.made q with
      | none => rfl
      | some k' =>
        have := h.clear q k' hsd hf.2
        rw [← e, hb] at this
        cases this

/-- Where an operation that writes stands in the row of stages. -/
theorem Sch.at_stage (hC : Chain ops.size pre s0 ds.stages) (h : Sch D T n ops pre t0 base ds r0 g0 w0 S k s r a w) {k' : Nat} {s' : Stage} (hst : stageOf ds.stages k' = some s')
    (hsub : ∀ b, s'.wm.testBit b = true → S b = true) (hge : ¬ k' < k) : k' = k ∧ s' = s := by
  have hk : k' = k := by
    refine Nat.le_antisymm ?_ (by omega)
    refine Nat.le_of_not_lt fun hlt => ?_
    obtain ⟨s1, e1⟩ : ∃ s1, stageOf ds.stages (k + 1) = some s1 := stageOf_some (by have := stageOf_lt hst; omega)
    obtain ⟨j, p, _, _, _, e2, e3⟩ := hC.next h.stage e1
    have hj : s1.wm.testBit j = true := by rw [e2, lor_testBit, two_testBit]; simp
    have h1 : s'.wm.testBit j = true := by
      have hd : stageOf ds.stages (k + 1 + (k' - (k + 1))) = some s' := by rw [show k + 1 + (k' - (k + 1)) = k' by omega]; exact hst
      exact hC.mono e1 _ hd j hj
    have hE : ds.st.wm.testBit j = true := by
      have hl := stageOf_lt hst
      have hd : stageOf ds.stages (k' + (ds.old.length - k')) = some ds.st := by
        simp only [DS.stages, List.length_cons] at hl
        rw [show k' + (ds.old.length - k') = ds.old.length by omega]
        simp [DS.stages, stageOf]
      exact hC.mono hst _ hd j h1
    rw [h.wmE j (hsub j h1) hE] at e3
    cases e3
  subst hk
  rw [h.stage] at hst
  cases hst
  exact ⟨rfl, rfl⟩
end
end Ev
end Go.Proofs.YtjmapihogpdocaaGreatDoor

/-! ## EvDraw5 -/
namespace Go.Proofs.YtjmapihogpdocaaGreatDoor
namespace Ev
open Go
variable {D : Keep}

section
variable {T : Tab} {P : Program} {callF : FuncId → List AVal → AMem → Out AVal} {n : Nat} {ops : Array Oper} {base : Nat} {pre who : Tree Nat} {s0 : Stage} {t0 : Tree AVal} {ds : DS}
  {r0 : Ren} {g0 : Nat → Option ABlk} {w0 : World} {S : Nat → Bool} {k : Nat} {s : Stage} {r : Ren} {a : Act} {w : World}

theorem Sch.make (hS : Stat ops pre who) (h : Sch D T n ops pre t0 base ds r0 g0 w0 S k s r a w) {i : Nat} {o : Oper} {p : Nat} (ho : ops[i]? = some o) (hpi : pre.get i = some p) (hp : ∀ b, p.testBit b = true → S b = true) (hSi : S i = false)
    {v : AVal} {v' : Value} {x : ABlk} {B : Blk} {w' : World} (hmade : Made r (base + i) w x v v' w' B) (hd : Dst n o ds.t v) (hs : sideOf ds.made i = some x) (hm : ds.st.wm.testBit i = false) (hx : ∀ x, ds.pan = some x → x.1 ≠ i) :
    Sch D T n ops pre t0 base ds r0 g0 w0 (with_ S i) k s (r.ext (base + i) B) (a.put o.dst v') w' := by
  have hisz := (Array.getElem?_eq_some_iff.1 ho).1
  have hid := h.names i hisz hSi
  have hab : s.abs.testBit i = false := by
    cases e : s.abs.testBit i with
    | false => rfl
    | true => rw [h.abs i e] at hSi; cases hSi
  have hbig := h.big
  refine h.after hS ho hpi hp h.stage (Ren.ext_le hid) hmade.val hd (fun b hb => with_old (h.wm b hb)) (fun b hb hE => ?_) (fun b hb => with_old (h.abs b hb)) hx (fun q _ hq e => ?_) h.clear h.big ?_
  · rcases with_true hb with e | e
    · subst e; rw [hm] at hE; cases hE
    · exact h.wmE b e hE
  · simp only [Ren.ext]
    rw [if_neg (by omega)]
    exact e
  · have hg : (view base s.m (fun q => S q && !s.abs.testBit q) ds.made).get (base + i) = none := by
      cases e : (view base s.m (fun q => S q && !s.abs.testBit q) ds.made).get (base + i) with
      | none => rfl
      | some y =>
        obtain ⟨B', hB', _⟩ := h.step.mem.blk _ _ e
        rw [hid] at hB'
        cases hB'
    have st1 := hmade.beside (base := base) h.step.mem hid hg (by omega) (by omega)
    refine (h.step.trans' st1 (Nat.le_refl _)).trans' (nk := s.m.next) (Step.sub st1.mem fun b y hb => ?_) (by omega)
    rcases view_cases hb with ⟨q, e, hf, hsd⟩ | ⟨hb, hno⟩
    · simp only [upd]
      by_cases c : q = i
      · subst c
        rw [if_pos e]
        rw [hs] at hsd
        exact hsd
      · rw [if_neg (by omega), e]
        refine view_side ?_ hsd
        simp only [with_ne c] at hf
        exact hf
    · simp only [upd]
      by_cases c : b = base + i
      · have := hno i c (by simp [with_self, hab])
        rw [hs] at this
        cases this
      · rw [if_neg c, view_main fun q e hf => hno q e ?_]
        · exact hb
        · simp only [Bool.and_eq_true] at hf ⊢
          exact ⟨with_old hf.1, hf.2⟩

theorem Sch.write (hS : Stat ops pre who) (h : Sch D T n ops pre t0 base ds r0 g0 w0 S k s r a w) (hmd : ∀ q x, sideOf ds.made q = some x → q < ops.size ∧ x.writable = true)
    {i : Nat} {o : Oper} {p : Nat} (ho : ops[i]? = some o) (hpi : pre.get i = some p) (hp : ∀ b, p.testBit b = true → S b = true)
    {v : AVal} {v' : Value} {m' : AMem} {r' : Ren} {w' : World} (hst' : stageOf ds.stages (k + 1) = some ⟨m', Nat.lor p s.abs, Nat.lor (2 ^ i) s.wm⟩) (hv : VRel r' v v') (hd : Dst n o ds.t v)
    (hs : sideOf ds.made i = none) (hx : ∀ x, ds.pan = some x → x.1 ≠ i)
    (hstep : Step r s.m.next (view base s.m (Nat.testBit (diff p s.abs)) ds.made).get w r' m'.next m'.get w') :
    Sch D T n ops pre t0 base ds r0 g0 w0 (with_ S i) (k + 1) ⟨m', Nat.lor p s.abs, Nat.lor (2 ^ i) s.wm⟩ r' (a.put o.dst v') w' := by
  have hbig := h.big
  have hm := h.step.mem
  have hsees := h.sees hp
  have hnew : ∀ q B, q < ops.size → r'.at_ (base + q) = some B → r.at_ (base + q) = some B := by
    intro q B hq e
    rcases hstep.new _ _ e with e1 | e1
    · exact e1
    · omega
  -- what lies beside is not seen
  have out : ∀ q x, sideOf ds.made q = some x → s.abs.testBit q = false → p.testBit q = false → (view base s.m (Nat.testBit (diff p s.abs)) ds.made).get (base + q) = none := by
    intro q x hsd hab hpq
    cases e : (view base s.m (Nat.testBit (diff p s.abs)) ds.made).get (base + q) with
    | none => rfl
    | some y =>
      rcases view_cases e with ⟨q', e', hf, _⟩ | ⟨e', _⟩
      · have : q' = q := by omega
        subst this
        rw [diff_testBit, hpq] at hf
        cases hf
      · rw [h.clear q x hsd hab] at e'
        cases e'
  refine h.after hS ho hpi hp hst' hstep.le hv hd (fun b hb => ?_) (fun b hb hE => ?_) (fun b hb => ?_) hx (fun q hq _ e => ?_) (fun q x hsd hab => ?_) (Nat.le_trans hbig hstep.next) ?_
  · rw [lor_testBit, two_testBit] at hb
    simp at hb
    rcases hb with e | e
    · subst e; exact with_self S i
    · exact with_old (h.wm b e)
  · rw [lor_testBit, two_testBit]
    rcases with_true hb with e | e
    · subst e; simp
    · rw [h.wmE b e hE]; simp
  · rw [lor_testBit] at hb
    simp at hb
    rcases hb with e | e
    · exact with_old (hp b e)
    · exact with_old (h.abs b e)
  · cases e1 : r'.at_ (base + q) with
    | none => rfl
    | some B => rw [hnew q B hq e1] at e; cases e
  · obtain ⟨hq, hwr⟩ := hmd q x hsd
    have hab' : p.testBit q = false ∧ s.abs.testBit q = false := by
      have : Nat.testBit (Nat.lor p s.abs) q = false := hab
      rw [lor_testBit] at this
      simpa using this
    show m'.get (base + q) = none
    cases e : m'.get (base + q) with
    | none => rfl
    | some y =>
      exfalso
      obtain ⟨B, hB, _⟩ := hstep.mem.blk _ _ e
      have hB0 := hnew q B hq hB
      have hSq : S q = true := by
        cases c : S q with
        | true => rfl
        | false => rw [h.names q hq c] at hB0; cases hB0
      have hgq : (view base s.m (fun q => S q && !s.abs.testBit q) ds.made).get (base + q) = some x := view_side (by simp [hSq, hab'.2]) hsd
      rcases hstep.own _ _ _ e hB with z | ⟨b0, k0, B0, z1, z2, z3, z4⟩
      · have := hm.inw _ _ hB0
        omega
      · have := hm.inj _ _ _ _ _ _ hgq (hsees _ _ z1) hB0 z2 hwr z3.symm
        rw [← this, out q x hsd hab'.2 hab'.1] at z1
        cases z1
  · refine h.step.trans' (Step.frame hm hsees hstep fun b y hb => ?_) (by omega)
    rcases view_cases hb with ⟨q, e, hf, hsd⟩ | ⟨hb, _⟩
    · have hf' : with_ S i q = true ∧ p.testBit q = false ∧ s.abs.testBit q = false := by
        simp only [Bool.and_eq_true, Bool.not_eq_true', lor_testBit, Bool.or_eq_false_iff] at hf
        exact ⟨hf.1, hf.2.1, hf.2.2⟩
      have hqi : q ≠ i := by intro c; rw [c, hs] at hsd; cases hsd
      rw [with_ne hqi] at hf'
      right
      rw [e]
      exact ⟨out q y hsd hf'.2.2 hf'.2.1, view_side (by simp [hf'.1, hf'.2.2]) hsd⟩
    · exact .inl hb

theorem sched_op (hT : TabOk T P) (hcall : ∀ f, CallOk T P f (callF f)) (hS : Stat ops pre who) (hold : ∀ u, (∀ (j : Nat) (o : Oper), ops[j]? = some o → o.dst ≠ some u) → ds.t.get u = t0.get u) (hC : Chain ops.size pre s0 ds.stages) (hR : stagesOk T base ds.made ds.st.wm ds.reads ds.stages = true)
    (hmd : ∀ q x, sideOf ds.made q = some x → q < ops.size ∧ x.writable = true) (h : Sch D T n ops pre t0 base ds r0 g0 w0 S k s r a w)
    {i : Nat} {o : Oper} {p : Nat} (ho : ops[i]? = some o) (hpi : pre.get i = some p) (hsee : Sees ops pre i o p) (hSi : S i = false) (hp : ∀ b, p.testBit b = true → S b = true) {t : Tree AVal} (hmt : Match ops o p t0 t ds.t) (hF : Fact T callF n ops base i o p t ds)
    {K : Act → World → Prop} {Q : Exit → Act → World → Prop} (hK : ∀ k' s' r' a' w', Sch D T n ops pre t0 base ds r0 g0 w0 (with_ S i) k' s' r' a' w' → K a' w')
    (hQ : ∀ x, ds.pan = some x → ∀ r' a' v' w', D.calm a' → VRel r' x.2.1 v' → Step r0 base g0 w0 r' x.2.2.next x.2.2.get w' → Q (.panic [{ v := v', recovered := false }]) a' w') :
    wpOp P ops Q i K a w := by
  obtain ⟨t', ht, hl⟩ := h.tree hS hold hSi hsee hmt hp
  have wanted : ∀ b, wantedOp ops t o = some b → Region.wanted o (yielded ops a.tmps) = b := fun b e => wanted_ok ht (hl.wanted.trans e)
  have hmm : ∀ p', (∀ b, p'.testBit b = true → S b = true) → MemRel r (view base s.m (Nat.testBit (diff p' s.abs)) ds.made).next (view base s.m (Nat.testBit (diff p' s.abs)) ds.made).get w := by
    intro p' hp'
    rw [view_next]
    exact h.step.mem.sub (h.sees hp')
  unfold wpOp
  simp only [ho]
  cases hF with
  | dead x hx hpx hs =>
    have := hp x.1 hpx
    rw [h.pan x hx] at this
    cases this
  | skip hw hs hm hx hd =>
    rw [wanted _ hw]
    simp only [Bool.false_eq_true, if_false]
    exact hK _ _ _ _ _ (h.quiet hS ho hpi hp (undef_rel r) hd hs hm hx)
  | p v hw hk he hs hm hx hd =>
    rw [wanted _ hw]
    simp only [if_true]
    left
    obtain ⟨v', e, hr⟩ := evP_ok hT w h.glob ht ((evP_congr hl.agree).symm.trans he)
    unfold Oper.wp
    rw [e]
    exact hK _ _ _ _ _ (h.quiet hS ho hpi hp hr hd hs hm hx)
  | r v hw hk kc s' hst he hr hs hm hx hd =>
    rw [wanted _ hw]
    simp only [if_true]
    left
    have he2 : evR T t (view base s.m (Nat.testBit (diff p s.abs)) ds.made).get o.op = some v := by
      by_cases c : k = kc
      · subst c
        rw [h.stage] at hst
        cases hst
        exact he
      · have := readsOk_spec (stagesOk_spec hR k s h.stage) _ hr
        refine readOk_spec this c ?_ ?_
        · cases e : s.abs.testBit i with
          | false => rfl
          | true => rw [h.abs i e] at hSi; cases hSi
        · exact fun b hb hE => h.wmE b (hp b hb) hE
    obtain ⟨v', e, hv⟩ := evR_ok hT h.glob ht (h.step.mem) (evR_mono (h.sees hp) ((evR_congr hl.agree).symm.trans he2))
    unfold Oper.wp
    rw [e]
    exact hK _ _ _ _ _ (h.quiet hS ho hpi hp hv hd hs hm hx)
  | a v x hw hk he hs hm hx hd =>
    rw [wanted _ hw]
    simp only [if_true]
    left
    have hid := h.names i (Array.getElem?_eq_some_iff.1 ho).1 hSi
    obtain ⟨v', w', B, e, hmade⟩ := evA_ok hT (w := w) hid h.glob ht ((evA_congr hl.agree).symm.trans he)
    unfold Oper.wp
    rw [e]
    exact hK _ _ _ _ _ (h.make hS ho hpi hp hSi hmade hd hs hm hx)
  | w v m' k' s' hw hk hst hpw he hst' hs hx hd =>
    rw [wanted _ hw]
    simp only [if_true]
    left
    obtain ⟨rfl, rfl⟩ := h.at_stage hC hst (fun b hb => hp b (hpw b hb)) fun hlt => by
      have hd : stageOf ds.stages (k' + 1 + (k - (k' + 1))) = some s := by rw [show k' + 1 + (k - (k' + 1)) = k by omega]; exact h.stage
      have := hC.mono hst' _ hd i (by show Nat.testBit (Nat.lor (2 ^ i) s'.wm) i = true; rw [lor_testBit, two_testBit]; simp)
      rw [h.wm i this] at hSi
      cases hSi
    refine evOne_ok hT hcall h.glob ht (hmm p hp) ?_
    rw [← evOne_congr hl.agree, he]
    intro r' v' w' hv hg' hst1
    rw [view_next] at hst1
    exact hK _ _ _ _ _ (h.write hS hmd ho hpi hp hst' hv hd hs hx hst1)
  | wp v m' hw hk hpw he hpan hs =>
    rw [wanted _ hw]
    simp only [if_true]
    left
    have hlast : stageOf ds.stages ds.old.length = some ds.st := by simp [DS.stages, stageOf]
    obtain ⟨_, e2⟩ := h.at_stage hC hlast (fun b hb => hp b (hpw b hb)) fun hlt => by
      have := stageOf_lt h.stage
      simp [DS.stages] at this
      omega
    rw [e2] at he
    refine evOne_ok hT hcall h.glob ht (hmm p hp) ?_
    rw [← evOne_congr hl.agree, he]
    intro r' v' w' hv hst1
    rw [view_next] at hst1
    have hsub := Step.sub h.step.mem (h.sees hp)
    have hbig := h.big
    exact hQ _ hpan r' a v' w' h.calm hv ((h.step.trans' hsub (by omega)).trans' hst1 (by omega))

/-- Whatever order is drawn. -/
theorem sched_ok (hT : TabOk T P) (hcall : ∀ f, CallOk T P f (callF f)) (hS : Stat ops pre who) (hold : ∀ u, (∀ (j : Nat) (o : Oper), ops[j]? = some o → o.dst ≠ some u) → ds.t.get u = t0.get u) (hC : Chain ops.size pre s0 ds.stages) (hR : stagesOk T base ds.made ds.st.wm ds.reads ds.stages = true)
    (hmd : ∀ q x, sideOf ds.made q = some x → q < ops.size ∧ x.writable = true) (hF : ∀ j o, ops[j]? = some o → ∃ p, pre.get j = some p ∧ Sees ops pre j o p ∧ ∃ t, Match ops o p t0 t ds.t ∧ Fact T callF n ops base j o p t ds)
    (hpanlt : ∀ x, ds.pan = some x → x.1 < ops.size)
    {Q : Exit → Act → World → Prop} (hend : ds.pan = none → ∀ r' a' w', GlobOk T r' → TRel D r' ds.t n a' → Step r0 base g0 w0 r' ds.st.m.next (view base ds.st.m (Nat.testBit (diff (2 ^ ops.size - 1) ds.st.abs)) ds.made).get w' → Q .normal a' w')
    (hQ : ∀ x, ds.pan = some x → ∀ r' a' v' w', D.calm a' → VRel r' x.2.1 v' → Step r0 base g0 w0 r' x.2.2.next x.2.2.get w' → Q (.panic [{ v := v', recovered := false }]) a' w') :
    ∀ (fuel : Nat) (listed : Array Bool) (L : List Nat), listed.size = ops.size → L.length ≤ fuel → (∀ q, q < ops.size → listed.getD q false = false → q ∈ L) → ∀ {k s r a w},
      Sch D T n ops pre t0 base ds r0 g0 w0 (fun q => listed.getD q false) k s r a w → wpAny P .any ops Q fuel listed a w := by
  have done : ∀ (listed : Array Bool), listed.size = ops.size → Region.ready .any ops listed = [] → ∀ {k s r a w}, Sch D T n ops pre t0 base ds r0 g0 w0 (fun q => listed.getD q false) k s r a w → Q .normal a w := by
    intro listed hsz hr k s r a w h
    have all : ∀ q, q < ops.size → listed.getD q false = true := by
      intro q
      induction q using Nat.strongRecOn with
      | ind q ih =>
        intro hq
        cases c : listed.getD q false with
        | true => rfl
        | false =>
          exfalso
          have ho : ops[q]? = some ops[q] := Array.getElem?_eq_getElem hq
          obtain ⟨p, hp, _, hed⟩ := hS.pre q _ ho
          have : q ∈ Region.ready .any ops listed := by
            rw [mem_ready]
            refine ⟨?_, _, ho, fun e he hb => ?_⟩
            · rw [Array.getD_eq_getD_getElem?, Array.getElem?_eq_getElem (by omega)] at c ⊢
              exact c
            · have := hed e he hb
              exact ih e.on this (by omega)
          rw [hr] at this
          cases this
    have hpan : ds.pan = none := by
      cases e : ds.pan with
      | none => rfl
      | some x =>
        have := h.pan x e
        rw [all x.1 (hpanlt x e)] at this
        cases this
    have hlast : stageOf ds.stages ds.old.length = some ds.st := by simp [DS.stages, stageOf]
    have hk : k = ds.old.length ∧ s = ds.st := by
      have hl := stageOf_lt h.stage
      simp only [DS.stages, List.length_cons] at hl
      by_cases c : k = ds.old.length
      · subst c
        have := h.stage
        rw [hlast] at this
        cases this
        exact ⟨rfl, rfl⟩
      · exfalso
        obtain ⟨s1, e1⟩ : ∃ s1, stageOf ds.stages (k + 1) = some s1 := stageOf_some (by simp [DS.stages]; omega)
        obtain ⟨j, p, hj, _, _, e2, e3⟩ := hC.next h.stage e1
        have hE : ds.st.wm.testBit j = true := by
          have hd : stageOf ds.stages (k + 1 + (ds.old.length - (k + 1))) = some ds.st := by rw [show k + 1 + (ds.old.length - (k + 1)) = ds.old.length by omega]; exact hlast
          exact hC.mono e1 _ hd j (by rw [e2, lor_testBit, two_testBit]; simp)
        rw [h.wmE j (all j hj) hE] at e3
        cases e3
    obtain ⟨rfl, rfl⟩ := hk
    have hbig := h.big
    refine hend hpan r a w h.glob ⟨h.size, fun u v e => h.tmps u v e fun j o ho _ => all j (Array.getElem?_eq_some_iff.1 ho).1, h.calm⟩ (h.step.trans' (Step.sub h.step.mem fun b y hb => ?_) (by omega))
    rcases view_cases hb with ⟨q, e, hf, hsd⟩ | ⟨hb, hno⟩
    · rw [e]
      refine view_side ?_ hsd
      rw [diff_testBit, Bool.and_eq_true] at hf
      simp only [Bool.and_eq_true]
      exact ⟨all q (hmd q y hsd).1, hf.2⟩
    · rw [view_main]
      · exact hb
      · intro q e hf
        cases hsd : sideOf ds.made q with
        | none => rfl
        | some x =>
          have hq := (hmd q x hsd).1
          simp only [Bool.and_eq_true] at hf
          have := hno q e (by rw [diff_testBit, Nat.testBit_two_pow_sub_one, decide_eq_true hq, hf.2]; rfl)
          rw [hsd] at this
          cases this
  intro fuel
  induction fuel with
  | zero =>
    intro listed L hsz hL hall k s r a w h
    have hr : Region.ready .any ops listed = [] := by
      cases hr : Region.ready .any ops listed with
      | nil => rfl
      | cons i rest =>
        exfalso
        obtain ⟨h0, o, ho, _⟩ := mem_ready.1 (hr ▸ List.mem_cons_self : i ∈ Region.ready .any ops listed)
        have hi := (Array.getElem?_eq_some_iff.1 ho).1
        have : listed.getD i false = false := by
          rw [Array.getD_eq_getD_getElem?, Array.getElem?_eq_getElem (by omega)] at h0 ⊢
          exact h0
        have := hall i hi this
        have hnil : L = [] := List.eq_nil_of_length_eq_zero (by omega)
        rw [hnil] at this
        cases this
    exact ⟨hr, done listed hsz hr h⟩
  | succ fuel ih =>
    intro listed L hsz hL hall k s r a w h
    refine ⟨fun hr => done listed hsz hr h, fun i hi => ?_⟩
    obtain ⟨h0, o, ho, hed⟩ := mem_ready.1 hi
    have hisz := (Array.getElem?_eq_some_iff.1 ho).1
    have hSi : listed.getD i false = false := by
      rw [Array.getD_eq_getD_getElem?, Array.getElem?_eq_getElem (by omega)] at h0 ⊢
      exact h0
    obtain ⟨p, hpi, hsee, t, hmt, hfact⟩ := hF i o ho
    obtain ⟨p', hpi', hbits, _⟩ := hS.pre i o ho
    rw [hpi] at hpi'
    cases hpi'
    have hp : ∀ b, p.testBit b = true → listed.getD b false = true := by
      intro b hb
      obtain ⟨hbi, e, he, hbind, hor⟩ := hbits b hb
      have hon := hed e he hbind
      rcases hor with rfl | ⟨q, hq, hqb⟩
      · exact hon
      · have hlt : e.on < ops.size := by
          rcases Nat.lt_or_ge e.on ops.size with c | c
          · exact c
          · rw [Array.getD_eq_getD_getElem?, Array.getElem?_eq_none (by omega)] at hon
            cases hon
        exact h.closed e.on _ q (Array.getElem?_eq_getElem hlt) hon hq b hqb
    have hin := hall i hisz hSi
    have hS' : (fun q => (listed.setIfInBounds i true).getD q false) = with_ (fun q => listed.getD q false) i := by
      funext q
      by_cases c : q = i
      · subst c
        rw [with_self, Array.getD_eq_getD_getElem?, Array.getElem?_setIfInBounds, if_pos rfl, if_pos (by omega)]
        rfl
      · rw [with_ne c, getD_set_ne false (fun e => c e.symm)]
    refine sched_op hT hcall hS hold hC hR hmd h ho hpi hsee hSi hp hmt hfact (fun k' s' r' a' w' h' => ?_) hQ
    refine ih (listed.setIfInBounds i true) (L.erase i) (by simp [hsz]) (by rw [List.length_erase_of_mem hin]; omega) (fun q hq hun => ?_) (by rw [hS']; exact h')
    have hqi : q ≠ i := by
      intro c
      subst c
      have := congrFun hS' q
      rw [hun, with_self] at this
      cases this
    have := congrFun hS' q
    rw [hun, with_ne hqi] at this
    exact (List.mem_erase_of_ne hqi).2 (hall q hq this.symm)
end

/-- EVERY REGION. -/
theorem selOf_spec {l : List Oper} {o : Oper} {cs : Array SelectCase} {bl : Bool} {rest : List Oper} (h : selOf l = some (o, cs, bl, rest)) : l = o :: rest ∧ o.op = .select cs bl ∧ o.guard = none := by
  unfold selOf at h
  split at h
  · split at h
    · rename_i h1 h2
      cases h
      exact ⟨rfl, h1, h2⟩
    · cases h
  · cases h

theorem stepG_comm_any {P : Program} {b : Frame} {a : Act} {k : List Item} {cs : List Frame} {w w' : World} {ops : Array Oper} {i : Nat} {rest : List Nat} {o : Oper} {cases : Array CommCase} {blocking : Bool} {shape : CommShape} (ho : ops[i]? = some o)
    (hw : Region.wanted o (yielded ops a.tmps) = true) (hr : (execOp a.eval o).run P w = .ok (.comm cases blocking shape) w') :
    ∃ es, stepG P true (Conc.G (b.at a (.inRegion ops (i :: rest) :: k)) cs) w = .comm (Conc.G (b.at a (.inRegion ops (i :: rest) :: k)) cs) cases blocking shape w' es := by
  rw [Conc.stepG_oper ho hw]
  refine ⟨seen P b.fn (if b.kind = CallKind.early then #[] else Sem.events P (execOp a.eval o) w #[]), ?_⟩
  simp [stepG.apply, hr, Conc.G, Frame.at, GStep.after]

/-- A SELECT OF ONE CASE WITH A DEFAULT is one step. -/
theorem selectOp_ok {T : Tab} {P : Program} (hT : TabOk T P) {r : Ren} {t : Tree AVal} {n : Nat} {a : Act} {m m' : AMem} {w : World} {ops : Array Oper} {o : Oper} {sc : Array SelectCase} {bl : Bool} {v : AVal}
    (h0 : ops[0]? = some o) (ho : o.op = .select sc bl) (hgd : o.guard = none) (hg : GlobOk T r) (ht : TRel D r t n a) (hm : MemRel r m.next m.get w) (h : selectOp T t m sc bl = .val v m') :
    ∃ v' w', VRel r v v' ∧ Step r m.next m.get w r m'.next m'.get w' ∧ ∀ (b : Frame) (k : List Item) (cs : List Frame) (rest : List Nat),
      step P (lone (b.at a (.inRegion ops (0 :: rest) :: k)) cs w) = .next (lone (b.at (a.put o.dst v') (.inRegion ops rest :: k)) cs w') := by
  have hwant : Region.wanted o (yielded ops a.tmps) = true := by simp [Region.wanted, hgd]
  have fin : ∀ (b : Frame) (k : List Item) (rest : List Nat) (v : Value), (b.at a (.inRegion ops (0 :: rest) :: k)).finish v = b.at (a.put o.dst v) (.inRegion ops rest :: k) := by
    intro b k rest v
    rw [Frame.finish_at, h0]
    rfl
  unfold selectOp at h
  split at h
  · rename_i c hc
    have hsc : sc = #[c] := by
      obtain ⟨l⟩ := sc
      simp only at hc
      rw [hc]
    subst hsc
    split at h
    · rename_i b z hch hz
      obtain ⟨z', ez, hzz⟩ := run_zero hT hz w
      have hzr : VRel r z z' := by rw [hzz]; exact absV_rel r z'
      have hx := ev_rel hg ht c.chan
      rw [hch] at hx
      obtain ⟨B, hB, hcv⟩ := hx.chan_inv
      split at h
      · rename_i cap buf hgb
        obtain ⟨B', hB', hb0, buf', s, q, p1, p2⟩ := hm.blk _ _ hgb
        rw [hB] at hB'
        cases hB'
        have hlen := p2.len
        have hin := hm.inw b B hB
        have upd : ∀ (k' : ABlk) (ob : Obj), BlkRel r k' B { w with heap := w.heap.setIfInBounds B.cb ob } → (∀ e vs ro frz, k' = .cells e vs ro frz true → False) →
            Step r m.next m.get w r (m.set b k').next (m.set b k').get { w with heap := w.heap.setIfInBounds B.cb ob } := by
          intro k' ob hrel hne
          rw [AMem.get_set]
          exact step_upd hm hgb rfl hB hrel (fun e vs ro frz h => (hne e vs ro frz h).elim) (by simp) rfl rfl rfl (fun cb hne => by simp [hne.symm])
        split at h
        · rename_i x hsend
          have hxr := ev_rel hg ht x
          have hr : (execOp a.eval o).run P w = .ok (.comm #[Conc.scase B.cb (a.eval x) z'] false .select) w := by
            simp [execOp, ho, hcv, hsend, ez, Conc.scase]
          split at h
          · rename_i hroom
            cases h
            have hroom' : buf'.size < cap := by have := Nat.le_of_ble_eq_true hroom; simp at hlen; omega
            refine ⟨.tuple #[goInt 0, .bool false], { w with heap := w.heap.setIfInBounds B.cb (.chan cap (buf'.push (a.eval x)) false (s + 1) q false) }, .tupleOf (.cons (.int _ _) (.cons (.bool _) (.nil r))), ?_, fun fb k cs rest => ?_⟩
            · refine upd _ _ ⟨hb0, buf'.push (a.eval x), s + 1, q, by simp [hin], ?_⟩ (fun e vs ro frz h => by cases h)
              rw [Array.toList_push]
              exact p2.append (.cons hxr (.nil r))
            · obtain ⟨es, he⟩ := stepG_comm_any (P := P) (b := fb) (k := k) (cs := cs) (rest := rest) h0 hwant hr
              have := Conc.step_lone_select_send_room he p1 hroom'
              rw [fin] at this
              exact this
          · rename_i hroom
            cases h
            have hroom' : cap ≤ buf'.size := by
              rcases Nat.lt_or_ge buf.length cap with c | c
              · exact absurd hroom (by rw [show Nat.blt buf.length cap = true from Nat.ble_eq_true_of_le c]; exact Bool.noConfusion)
              · simp at hlen; omega
            refine ⟨.tuple #[goInt (-1), .bool false], w, .tupleOf (.cons (.int _ _) (.cons (.bool _) (.nil r))), .refl hm, fun fb k cs rest => ?_⟩
            obtain ⟨es, he⟩ := stepG_comm_any (P := P) (b := fb) (k := k) (cs := cs) (rest := rest) h0 hwant hr
            have := Conc.step_lone_select_send_full he p1 hroom'
            rw [fin] at this
            exact this
        · rename_i hsend
          have hr : (execOp a.eval o).run P w = .ok (.comm #[Conc.rcase B.cb z'] false .select) w := by
            simp [execOp, ho, hcv, hsend, ez, Conc.rcase]
          split at h
          · cases h
            have hbe : buf' = #[] := by
              simp at hlen
              exact hlen
            subst hbe
            refine ⟨.tuple #[goInt (-1), .bool false, z'], w, .tupleOf (.cons (.int _ _) (.cons (.bool _) (.cons hzr (.nil r)))), .refl hm, fun fb k cs rest => ?_⟩
            obtain ⟨es, he⟩ := stepG_comm_any (P := P) (b := fb) (k := k) (cs := cs) (rest := rest) h0 hwant hr
            have := Conc.step_lone_select_default he p1
            rw [fin] at this
            exact this
          · rename_i u us
            cases h
            obtain ⟨u', t', e1, hu, htl⟩ := p2.cons_inv
            have hsome : 0 < buf'.size := by simp at hlen; omega
            have hget : buf'.getD 0 undef = u' := by
              obtain ⟨l⟩ := buf'
              simp only at e1
              subst e1
              rfl
            refine ⟨.tuple #[goInt 0, .bool true, u'], { w with heap := w.heap.setIfInBounds B.cb (.chan cap (buf'.extract 1 buf'.size) false s (q + 1) false) }, .tupleOf (.cons (.int _ _) (.cons (.bool _) (.cons hu (.nil r)))), ?_, fun fb k cs rest => ?_⟩
            · refine upd _ _ ⟨hb0, buf'.extract 1 buf'.size, s, q + 1, by simp [hin], ?_⟩ (fun e vs ro frz h => by cases h)
              have : (buf'.extract 1 buf'.size).toList = t' := by
                obtain ⟨l⟩ := buf'
                simp only at e1
                subst e1
                simp
              rw [this]
              exact htl
            · obtain ⟨es, he⟩ := stepG_comm_any (P := P) (b := fb) (k := k) (cs := cs) (rest := rest) h0 hwant hr
              have := Conc.step_lone_select_recv_buf he p1 hsome
              rw [fin, hget] at this
              exact this
      · cases h
    · cases h
  · cases h

/-- A DRAWN REGION. -/
theorem draw_ok {T : Tab} {P : Program} (hT : TabOk T P) {callF : FuncId → List AVal → AMem → Out AVal} (hcall : ∀ f, CallOk T P f (callF f)) {n : Nat} {ops : Array Oper} {Q : Exit → Act → World → Prop} {r : Ren} {t : Tree AVal} {a : Act} {m : AMem} {w : World}
    (hfr : D.frees ops) (hg : GlobOk T r) (ht : TRel D r t n a) (hm : MemRel r m.next m.get w) (h : OpsSat D T n r m w (evDraw T callF n ops t m) Q) : wpAny P .any ops Q ops.size (Array.replicate ops.size false) a w := by
  unfold evDraw at h
  split at h
  · rename_i pre who hpre hwho
    split at h
    · exact h.elim
    · rename_i ds hds
      obtain ⟨_, m2⟩ := masks_spec ops.toList 0 .leaf pre (fun _ _ => rfl) (fun j k e => by cases e) hpre
      obtain ⟨_, w2⟩ := whoOf_spec ops.toList 0 .leaf who hwho
      have hS : Stat ops pre who := ⟨fun i o ho => by have := m2 i o (by simpa using ho); rwa [Nat.zero_add] at this, fun i o d ho hd => by have := w2 i o d (by simpa using ho) hd; rwa [Nat.zero_add] at this⟩
      have hinv0 : Inv ops ops.size pre ⟨⟨m.next + ops.size, m.tree⟩, 0, 0⟩ t 0 ⟨t, [], ⟨⟨m.next + ops.size, m.tree⟩, 0, 0⟩, [], [], none⟩ :=
        ⟨fun x hx => (by cases hx), fun s hs b hb => (by simp [DS.stages] at hs; subst hs; simp at hb), rfl, fun x hx => (by cases hx), fun x hx => (by cases hx), fun _ _ => rfl⟩
      obtain ⟨hlater, hinv, hfacts⟩ := drawOps_ok hS ops.toList 0 _ ds rfl hinv0 hds
      have hmd : ∀ q x, sideOf ds.made q = some x → q < ops.size ∧ x.writable = true := by
        intro q x hx
        have key : ∀ (l : List (Nat × ABlk)) q x, sideOf l q = some x → (q, x) ∈ l := by
          intro l
          induction l with
          | nil => intro q x h; simp [sideOf] at h
          | cons y rest ih =>
            intro q x h
            simp only [sideOf] at h
            split at h
            · rename_i e; cases h; rw [e]; simp
            · exact List.mem_cons_of_mem _ (ih q x h)
        have hmem := key _ _ _ hx
        have h1 := hinv.made _ hmem
        simp at h1
        exact ⟨h1, hinv.wr _ hmem⟩
      split at h
      · exact h.elim
      · rename_i hR
        have hfirst := hinv.chain.first
        obtain ⟨hn1, hn2⟩ : (∀ q, r.at_ (m.next + q) = none) ∧ ∀ q, m.get (m.next + q) = none :=
          ⟨fun q => (hm.none_at (Nat.le_add_right _ _)).1, fun q => (hm.none_at (Nat.le_add_right _ _)).2⟩
        refine sched_ok (D := D) (r0 := r) (g0 := m.get) (w0 := w) hT hcall hS (fun u hu => hinv.kept u fun j o _ ho => hu j o ho) hinv.chain hR hmd (fun j o ho => hfacts j o (Nat.zero_le _) ho) (fun x hx => by have := hinv.pan x hx; simpa using this) ?_ ?_
          ops.size (Array.replicate ops.size false) (List.range ops.size) (by simp) (by simp) (fun q hq _ => List.mem_range.2 hq) (k := 0) (s := ⟨⟨m.next + ops.size, m.tree⟩, 0, 0⟩) (r := r) ?_
        · intro hpan r' a' w' hg' ht' hst
          rw [hpan] at h
          simp only at h
          refine h r' a' w' ht' hg' ?_
          rw [view_next]
          exact hst
        · intro x hx r' a' v' w' hc hv hst
          rw [hx] at h
          exact h r' a' v' w' hc hv hst
        · have hS0 : ∀ q, (Array.replicate ops.size false).getD q false = false := by
            intro q
            rw [Array.getD_eq_getD_getElem?, Array.getElem?_replicate]
            split <;> rfl
          have hview : (view m.next ⟨m.next + ops.size, m.tree⟩ (fun q => (Array.replicate ops.size false).getD q false && !Nat.testBit 0 q) ds.made).get = m.get := by
            funext b
            rw [view_main fun q _ hf => by rw [hS0] at hf; cases hf]
            rfl
          refine ⟨fun i o p _ hi => (by simp only [hS0] at hi; cases hi), hfirst, fun b hb => (by simp at hb), fun b hb => (by simp only [hS0] at hb; cases hb), fun b hb => (by simp at hb),
            fun x _ => hS0 _, fun q _ _ => hn1 q, fun q b _ _ => hn2 q, Nat.le_refl _, hg, ht.size, ht.calm, hfr, fun u v e hall => ?_, fun u v e _ _ _ _ _ => ht.at_ u v e, ?_⟩
          · refine ht.at_ u v ?_
            have := hlater.t u fun j o _ ho hd => by have := hall j o ho hd; rw [hS0] at this; cases this
            rw [← e]
            exact this.symm
          · rw [hview]
            exact Step.same hm (Nat.le_add_right _ _) rfl rfl rfl rfl
  · exact h.elim

/-! ### A tail of two stores in any order -/
/-- What is asked of the head: behind it, the tail. -/
def HeadQ (P : Program) (ops : Array Oper) (h : Nat) (Q : Exit → Act → World → Prop) : Exit → Act → World → Prop
  | .normal, a, w => ∀ k, ops.size - h ≤ k → wpAny P .any ops Q k (Array.replicate h true ++ Array.replicate (ops.size - h) false) a w
  | .exit id, a, w => Q (.exit id) a w
  | .goto l, a, w => Q (.goto l) a w
  | .ret, a, w => Q .ret a w
  | .panic c, a, w => Q (.panic c) a w
  | .outgrown, a, w => Q .outgrown a w

theorem getD_true {L : Array Bool} {q : Nat} (h : q < L.size) : L.getD q true = L.getD q false := by
  rw [Array.getD_eq_getD_getElem?, Array.getD_eq_getD_getElem?, Array.getElem?_eq_getElem h]
  rfl

theorem wpOp_cut {P : Program} {ops : Array Oper} {h : Nat} {Q : Exit → Act → World → Prop} (hget : ∀ i, i < h → (ops.extract 0 h)[i]? = ops[i]?)
    (hgd : ∀ i o, i < h → ops[i]? = some o → ∀ j b, o.guard = some (j, b) → j < h) {i : Nat} (hi : i < h) {K K' : Act → World → Prop} (hK : ∀ a w, K a w → K' a w) {a : Act} {w : World}
    (hw : wpOp P (ops.extract 0 h) (HeadQ P ops h Q) i K a w) : wpOp P ops Q i K' a w := by
  unfold wpOp at hw ⊢
  rw [hget i hi] at hw
  cases ho : ops[i]? with
  | none => rw [ho] at hw; exact hK _ _ hw
  | some o =>
    rw [ho] at hw
    simp only at hw ⊢
    have hy : Region.wanted o (yielded (ops.extract 0 h) a.tmps) = Region.wanted o (yielded ops a.tmps) := by
      unfold Region.wanted
      cases hg : o.guard with
      | none => rfl
      | some x =>
        obtain ⟨j, b⟩ := x
        have := hgd i o hi ho j b hg
        simp only [yielded, hget j this]
    rw [hy] at hw
    cases hy2 : Region.wanted o (yielded ops a.tmps) with
    | false =>
      rw [hy2] at hw
      simp only [Bool.false_eq_true, if_false] at hw ⊢
      exact hK _ _ hw
    | true =>
      rw [hy2] at hw
      simp only [if_true] at hw ⊢
      rcases hw with hw | hw
      · left
        unfold Oper.wp at hw ⊢
        generalize (execOp a.eval o).run P w = r at hw ⊢
        cases r with
        | ok x w' =>
          cases x <;> simp only [Oper.upon] at hw ⊢ <;>
            first
              | exact hK _ _ hw
              | exact Calls.mono hw (fun e w'' he => by cases e <;> first | exact hK _ _ he | exact he)
              | exact Rows.mono hw (fun _ _ he => hK _ _ he)
        | halt x w' => cases x <;> simp only [Oper.upon] at hw ⊢ <;> exact hw
      · exact .inr hw

/-- A region whose last operations wait for all the rest. -/
theorem wpAny_cut {P : Program} {ops : Array Oper} {h : Nat} {Q : Exit → Act → World → Prop} (hh : h ≤ ops.size) (hget : ∀ i, i < h → (ops.extract 0 h)[i]? = ops[i]?)
    (hback : ∀ (i : Nat) (o : Oper), i < h → ops[i]? = some o → ∀ e ∈ o.after, Region.binds .any e = true → e.on < i)
    (hall : ∀ (i : Nat) (o : Oper), h ≤ i → ops[i]? = some o → ∀ q, q < h → ∃ e ∈ o.after, Region.binds .any e = true ∧ e.on = q)
    (hgd : ∀ (i : Nat) (o : Oper), i < h → ops[i]? = some o → ∀ j b, o.guard = some (j, b) → j < h) :
    ∀ (fuel : Nat) (L : Array Bool) (a : Act) (w : World), L.size = h → wpAny P .any (ops.extract 0 h) (HeadQ P ops h Q) fuel L a w →
      wpAny P .any ops Q (fuel + (ops.size - h)) (L ++ Array.replicate (ops.size - h) false) a w := by
  have hsz : (ops.extract 0 h).size = h := by simp; omega
  have inL : ∀ (L : Array Bool) (q : Nat) (d : Bool), L.size = h → q < h → (L ++ Array.replicate (ops.size - h) false).getD q d = L.getD q d := by
    intro L q d hL hq
    rw [Array.getD_eq_getD_getElem?, Array.getD_eq_getD_getElem?, Array.getElem?_append_left (by omega)]
  have outL : ∀ (L : Array Bool) (q : Nat) (d : Bool), L.size = h → h ≤ q → q < ops.size → (L ++ Array.replicate (ops.size - h) false).getD q d = false := by
    intro L q d hL hq hq2
    rw [Array.getD_eq_getD_getElem?, Array.getElem?_append_right (by omega), Array.getElem?_replicate, if_pos (by omega)]
    rfl
  have full : ∀ (L : Array Bool), L.size = h → (∀ q, q < h → L.getD q false = true) → L = Array.replicate h true := by
    intro L hL hq
    apply Array.ext
    · simp [hL]
    · intro i h1 h2
      have := hq i (by omega)
      rw [Array.getD_eq_getD_getElem?, Array.getElem?_eq_getElem h1] at this
      simpa using this
  have done : ∀ (L : Array Bool), L.size = h → Region.ready .any (ops.extract 0 h) L = [] → ∀ q, q < h → L.getD q false = true := by
    intro L hL hr q
    induction q using Nat.strongRecOn with
    | ind q ih =>
      intro hq
      cases c : L.getD q false with
      | true => rfl
      | false =>
        exfalso
        have ho : ops[q]? = some ops[q] := Array.getElem?_eq_getElem (by omega)
        have : q ∈ Region.ready .any (ops.extract 0 h) L := by
          rw [mem_ready]
          refine ⟨by rw [getD_true (by omega)]; exact c, _, (hget q hq).trans ho, fun e he hb => ?_⟩
          have := hback q _ hq ho e he hb
          exact ih e.on this (by omega)
        rw [hr] at this
        cases this
  have there : ∀ (L : Array Bool), L.size = h → ∀ i, i ∈ Region.ready .any (ops.extract 0 h) L → i < h ∧ i ∈ Region.ready .any ops (L ++ Array.replicate (ops.size - h) false) := by
    intro L hL i hi
    obtain ⟨h0, o, ho, hed⟩ := mem_ready.1 hi
    have hih : i < h := by rw [← hsz]; exact (Array.getElem?_eq_some_iff.1 ho).1
    have ho' := (hget i hih).symm.trans ho
    refine ⟨hih, mem_ready.2 ⟨by rw [inL L i true hL hih]; exact h0, o, ho', fun e he hb => ?_⟩⟩
    have := hback i o hih ho' e he hb
    rw [inL L e.on false hL (by omega)]
    exact hed e he hb
  have back : ∀ (L : Array Bool), L.size = h → ∀ q, q < h → L.getD q false = false → ∀ i, i ∈ Region.ready .any ops (L ++ Array.replicate (ops.size - h) false) → i < h ∧ i ∈ Region.ready .any (ops.extract 0 h) L := by
    intro L hL q hq hqf i hi
    obtain ⟨h0, o, ho, hed⟩ := mem_ready.1 hi
    have hih : i < h := by
      rcases Nat.lt_or_ge i h with c | c
      · exact c
      · exfalso
        obtain ⟨e, he, hb, heq⟩ := hall i o c ho q hq
        have := hed e he hb
        rw [heq, inL L q false hL hq, hqf] at this
        cases this
    refine ⟨hih, mem_ready.2 ⟨by rw [inL L i true hL hih] at h0; exact h0, o, (hget i hih).trans ho, fun e he hb => ?_⟩⟩
    have hlt := hback i o hih ho e he hb
    have := hed e he hb
    rw [inL L e.on false hL (by omega)] at this
    exact this
  intro fuel
  induction fuel with
  | zero =>
    intro L a w hL hx
    obtain ⟨h1, h2⟩ := hx
    rw [full L hL (done L hL h1)]
    exact h2 _ (by omega)
  | succ fuel ih =>
    intro L a w hL hx
    obtain ⟨h1, h2⟩ := hx
    by_cases hc : ∀ q, q < h → L.getD q false = true
    · have hr : Region.ready .any (ops.extract 0 h) L = [] := by
        cases hr : Region.ready .any (ops.extract 0 h) L with
        | nil => rfl
        | cons i rest =>
          exfalso
          obtain ⟨h0, o, ho, _⟩ := mem_ready.1 (hr ▸ List.mem_cons_self : i ∈ Region.ready .any (ops.extract 0 h) L)
          have hih : i < h := by rw [← hsz]; exact (Array.getElem?_eq_some_iff.1 ho).1
          rw [getD_true (by omega), hc i hih] at h0
          cases h0
      have h3 := h1 hr
      rw [full L hL hc]
      exact h3 _ (by omega)
    · obtain ⟨q, hq, hqf⟩ : ∃ q, q < h ∧ L.getD q false = false := by
        refine Classical.byContradiction fun hn => hc fun q hq => ?_
        cases e : L.getD q false with
        | true => rfl
        | false => exact absurd ⟨q, hq, e⟩ hn
      rw [show fuel + 1 + (ops.size - h) = (fuel + (ops.size - h)) + 1 by omega]
      refine ⟨fun hr => ?_, fun i hi => ?_⟩
      · exfalso
        cases hr2 : Region.ready .any (ops.extract 0 h) L with
        | nil => rw [done L hL hr2 q hq] at hqf; cases hqf
        | cons i rest =>
          have := (there L hL i (hr2 ▸ List.mem_cons_self)).2
          rw [hr] at this
          cases this
      · obtain ⟨hih, hi2⟩ := back L hL q hq hqf i hi
        refine wpOp_cut hget hgd hih (fun a' w' hk => ?_) (h2 i hi2)
        have := ih (L.setIfInBounds i true) a' w' (by simpa using hL) hk
        rw [Array.setIfInBounds_append_left (by omega)]
        exact this

/-- A store into a block looks at that block alone. -/
theorem storeOp_at {T : Tab} {m m' : AMem} {t : TypeId} {b o : Nat} {v u : AVal} (h : storeOp T m t (.ptr b o) v = .val u m') :
    ∃ k, m' = m.set b k ∧ ∀ m2 : AMem, m2.get b = m.get b → storeOp T m2 t (.ptr b o) v = .val u (m2.set b k) := by
  have key : ∀ m : AMem, v ≠ .any → (∀ vs, v ≠ .tuple vs) → storeOp T m t (.ptr b o) v = (match T.size t, m.get b with
      | some n, some (.cells e vs false frz wh) =>
        match Nat.beq v.cells.length n && v.cells.all AVal.one && Nat.ble frz o && Nat.ble (o + n) vs.length with
        | true => Res.val .any (m.set b (.cells e (over vs o v.cells) false frz wh))
        | false => .fail
      | _, _ => .fail) := by
    intro m h1 h2
    cases v <;> first | rfl | exact absurd rfl h1 | exact absurd rfl (h2 _)
  have hn1 : v ≠ .any := by intro e; subst e; cases h
  have hn2 : ∀ vs, v ≠ .tuple vs := by intro vs e; subst e; cases h
  rw [key m hn1 hn2] at h
  split at h
  · rename_i n e vs frz wh hs hg
    split at h
    · rename_i hc
      cases h
      refine ⟨_, rfl, fun m2 he => ?_⟩
      rw [key m2 hn1 hn2, he, hg, hs]
      simp only [hc]
    · cases h
  · cases h

theorem hasEdge_spec {o : Oper} {q : Nat} (h : hasEdge o q = true) : ∃ e ∈ o.after, Region.binds .any e = true ∧ e.on = q := by
  unfold hasEdge at h
  obtain ⟨e, he, hb⟩ := Array.any_eq_true'.1 h
  rw [Bool.and_eq_true] at hb
  exact ⟨e, he, hb.1, Nat.eq_of_beq_eq_true hb.2⟩
theorem edgesAll_spec {h : Nat} {o : Oper} (hx : edgesAll h o = true) : ∀ q, q < h → ∃ e ∈ o.after, Region.binds .any e = true ∧ e.on = q :=
  fun q hq => hasEdge_spec (List.all_eq_true.1 hx q (List.mem_range.2 hq))
theorem edgesIn_spec {ok : Nat → Bool} {o : Oper} (h : edgesIn ok o = true) : ∀ e ∈ o.after, Region.binds .any e = true → ok e.on = true := by
  intro e he hb
  have := Array.all_eq_true_iff_forall_mem.1 h e he
  rw [hb] at this
  simpa using this
theorem noGuard_spec {o : Oper} (h : noGuard o = true) : o.guard = none := by
  unfold noGuard at h
  split at h
  · assumption
  · cases h

theorem pairOf_spec {o o' : Oper} {p : Op} {d : Nat} {u : TypeId} {v : Operand} (h : pairOf o o' = some (p, d, u, v)) :
    o.op = p ∧ o.dst = some d ∧ o.guard = none ∧ o'.op = .store u (.tmp d) v ∧ o'.dst = none ∧ o'.guard = none := by
  unfold pairOf at h
  split at h
  · rename_i d0 u0 d' v0 h1 h2 h3
    split at h
    · rename_i hc
      cases h
      simp only [Bool.and_eq_true] at hc
      obtain rfl : d' = d := Nat.eq_of_beq_eq_true hc.1.1.1
      exact ⟨rfl, h1, noGuard_spec hc.1.2, h3, h2, noGuard_spec hc.2⟩
    · cases h
  · cases h

theorem ev_off {T : Tab} {d1 d2 : Nat} {t t' : Tree AVal} (h : ∀ u, u ≠ d1 → u ≠ d2 → t'.get u = t.get u) {x : Operand} (hx : offTmp d1 d2 x = true) : ev T t x = ev T t' x := by
  cases x with
  | tmp i =>
    simp only [offTmp, Bool.and_eq_true, Bool.not_eq_true'] at hx
    simp only [ev]
    rw [h i (Nat.ne_of_beq_eq_false hx.1) (Nat.ne_of_beq_eq_false hx.2)]
  | _ => rfl

theorem wanted_none {o : Oper} (h : o.guard = none) (y : Nat → Option Bool) : Region.wanted o y = true := by simp [Region.wanted, h]

/-- THE TAIL: whatever of the two pairs comes first. -/
theorem tail_ok {T : Tab} {P : Program} (hT : TabOk T P) {callF : FuncId → List AVal → AMem → Out AVal} (hcall : ∀ f, CallOk T P f (callF f)) {n h : Nat} {ops : Array Oper} {Q : Exit → Act → World → Prop} (hfr : D.frees ops) (hsz : ops.size = h + 4)
    {q1 q2 q3 q4 : Oper} (e1 : ops[h]? = some q1) (e2 : ops[h + 1]? = some q2) (e3 : ops[h + 2]? = some q3) (e4 : ops[h + 3]? = some q4)
    {p1 p2 : Op} {d1 d2 : Nat} {u1 u2 : TypeId} {v1 v2 : Operand} (k1 : pairOf q1 q2 = some (p1, d1, u1, v1)) (k2 : pairOf q3 q4 = some (p2, d2, u2, v2)) (hd : d1 ≠ d2) (hd1 : d1 < n) (hd2 : d2 < n)
    (f1 : ∀ x ∈ p1.operands, offTmp d1 d2 x = true) (f2 : ∀ x ∈ p2.operands, offTmp d1 d2 x = true) (f3 : offTmp d1 d2 v1 = true) (f4 : offTmp d1 d2 v2 = true)
    (g1 : ∀ e ∈ q1.after, Region.binds .any e = true → e.on < h) (g2 : ∀ e ∈ q2.after, Region.binds .any e = true → e.on ≤ h) (g3 : ∀ e ∈ q3.after, Region.binds .any e = true → e.on < h)
    (g4 : ∀ e ∈ q4.after, Region.binds .any e = true → e.on < h ∨ e.on = h + 2) (i2 : ∃ e ∈ q2.after, Region.binds .any e = true ∧ e.on = h) (i4 : ∃ e ∈ q4.after, Region.binds .any e = true ∧ e.on = h + 2)
    {t : Tree AVal} {m : AMem} {b1 o1 b2 o2 : Nat} (hp1 : evP T t p1 = some (.ptr b1 o1)) (hp2 : evP T t p2 = some (.ptr b2 o2)) (hb : b1 ≠ b2) {c1 c2 : ABlk} {y1 y2 : AVal}
    (hs1 : ∀ m2 : AMem, m2.get b1 = m.get b1 → storeOp T m2 u1 (.ptr b1 o1) (ev T t v1) = .val y1 (m2.set b1 c1))
    (hs2 : ∀ m2 : AMem, m2.get b2 = m.get b2 → storeOp T m2 u2 (.ptr b2 o2) (ev T t v2) = .val y2 (m2.set b2 c2)) :
    ∀ (fuel : Nat) (L : Array Bool) (x1 s1 x2 s2 : Bool) (r : Ren) (t' : Tree AVal) (m' : AMem) (a : Act) (w : World), L.size = h + 4 → (∀ q, q < h → L.getD q false = true) →
      L.getD h false = x1 → L.getD (h + 1) false = s1 → L.getD (h + 2) false = x2 → L.getD (h + 3) false = s2 → (s1 = true → x1 = true) → (s2 = true → x2 = true) →
      4 ≤ fuel + (x1.toNat + s1.toNat + x2.toNat + s2.toNat) → GlobOk T r → TRel D r t' n a → MemRel r m'.next m'.get w →
      (∀ u, t'.get u = if x2 = true ∧ u = d2 then some (.ptr b2 o2) else if x1 = true ∧ u = d1 then some (.ptr b1 o1) else t.get u) →
      m'.next = m.next → (∀ b, m'.get b = if s2 = true ∧ b = b2 then some c2 else if s1 = true ∧ b = b1 then some c1 else m.get b) →
      (∀ r' a' w', TRel D r' ((t.put d1 (.ptr b1 o1)).put d2 (.ptr b2 o2)) n a' → GlobOk T r' → Step r m'.next m'.get w r' ((m.set b1 c1).set b2 c2).next ((m.set b1 c1).set b2 c2).get w' → Q .normal a' w') →
      wpAny P .any ops Q fuel L a w := by
  obtain ⟨w1, w2, w3, w4, w5, w6⟩ := pairOf_spec k1
  obtain ⟨z1, z2, z3, z4, z5, z6⟩ := pairOf_spec k2
  -- all done
  have fin : ∀ (r : Ren) (t' : Tree AVal) (m' : AMem) (a : Act) (w : World), GlobOk T r → TRel D r t' n a → MemRel r m'.next m'.get w →
      (∀ u, t'.get u = if true = true ∧ u = d2 then some (.ptr b2 o2) else if true = true ∧ u = d1 then some (.ptr b1 o1) else t.get u) →
      m'.next = m.next → (∀ b, m'.get b = if true = true ∧ b = b2 then some c2 else if true = true ∧ b = b1 then some c1 else m.get b) →
      (∀ r' a' w', TRel D r' ((t.put d1 (.ptr b1 o1)).put d2 (.ptr b2 o2)) n a' → GlobOk T r' → Step r m'.next m'.get w r' ((m.set b1 c1).set b2 c2).next ((m.set b1 c1).set b2 c2).get w' → Q .normal a' w') → Q .normal a w := by
    intro r t' m' a w hg ht hm htt hnx hmm hQ
    have eg : m'.get = ((m.set b1 c1).set b2 c2).get := by
      funext b
      rw [hmm b, AMem.get_set', AMem.get_set']
      by_cases c : b = b2
      · rw [if_pos ⟨rfl, c⟩, if_pos c.symm]
      · by_cases c' : b = b1
        · rw [if_neg (fun h => c h.2), if_pos ⟨rfl, c'⟩, if_neg (fun h => c h.symm), if_pos c'.symm]
        · rw [if_neg (fun h => c h.2), if_neg (fun h => c' h.2), if_neg (fun h => c h.symm), if_neg (fun h => c' h.symm)]
    have en : m'.next = ((m.set b1 c1).set b2 c2).next := hnx
    refine hQ r a w ⟨ht.size, fun i v e => ht.at_ i v ?_, ht.calm⟩ hg ?_
    · rw [htt i]
      rw [Tree.get_put, Tree.get_put] at e
      by_cases c : i = d2
      · rw [if_pos c.symm] at e
        rw [if_pos ⟨rfl, c⟩]
        exact e
      · rw [if_neg (fun h => c h.symm)] at e
        rw [if_neg (fun h => c h.2)]
        by_cases c' : i = d1
        · rw [if_pos c'.symm] at e
          rw [if_pos ⟨rfl, c'⟩]
          exact e
        · rw [if_neg (fun h => c' h.symm)] at e
          rw [if_neg (fun h => c' h.2)]
          exact e
    · rw [← eg, ← en]
      exact .refl hm
  have setL : ∀ (L : Array Bool) (i : Nat), L.size = h + 4 → i < h + 4 → ∀ q, (L.setIfInBounds i true).getD q false = if q = i then true else L.getD q false := by
    intro L i hL hi q
    by_cases c : q = i
    · subst c
      rw [if_pos rfl, Array.getD_eq_getD_getElem?, Array.getElem?_setIfInBounds, if_pos rfl, if_pos (by omega)]
      rfl
    · rw [if_neg c, getD_set_ne false (fun e => c e.symm)]
  intro fuel
  induction fuel with
  | zero =>
    intro L x1 s1 x2 s2 r t' m' a w hL hq l1 l2 l3 l4 _ _ hcnt hg ht hm htt hnx hmm hQ
    have : x1 = true ∧ s1 = true ∧ x2 = true ∧ s2 = true := by
      cases x1 <;> cases s1 <;> cases x2 <;> cases s2 <;> simp at hcnt ⊢
    obtain ⟨rfl, rfl, rfl, rfl⟩ := this
    refine ⟨?_, fin r t' m' a w hg ht hm htt hnx hmm hQ⟩
    cases hr : Region.ready .any ops L with
    | nil => rfl
    | cons i rest =>
      exfalso
      obtain ⟨h0, o, ho, _⟩ := mem_ready.1 (hr ▸ List.mem_cons_self : i ∈ Region.ready .any ops L)
      have hi : i < h + 4 := by rw [← hsz]; exact (Array.getElem?_eq_some_iff.1 ho).1
      rw [getD_true (by omega)] at h0
      have : L.getD i false = true := by
        rcases Nat.lt_or_ge i h with c | c
        · exact hq i c
        · obtain c | c | c | c : i = h ∨ i = h + 1 ∨ i = h + 2 ∨ i = h + 3 := by omega
          · rw [c]; exact l1
          · rw [c]; exact l2
          · rw [c]; exact l3
          · rw [c]; exact l4
      rw [this] at h0
      cases h0
  | succ fuel ih =>
    intro L x1 s1 x2 s2 r t' m' a w hL hq l1 l2 l3 l4 c1' c2' hcnt hg ht hm htt hnx hmm hQ
    have off : ∀ u, u ≠ d1 → u ≠ d2 → t'.get u = t.get u := by
      intro u a1 a2
      rw [htt u, if_neg (fun h => a2 h.2), if_neg (fun h => a1 h.2)]
    refine ⟨fun hr => ?_, fun i hi => ?_⟩
    · have no : ∀ i o, ops[i]? = some o → i < h + 4 → (∀ e ∈ o.after, Region.binds .any e = true → L.getD e.on false = true) → L.getD i false = true := by
        intro i o ho hi hed
        cases c : L.getD i false with
        | true => rfl
        | false =>
          exfalso
          have : i ∈ Region.ready .any ops L := mem_ready.2 ⟨by rw [getD_true (by omega)]; exact c, o, ho, hed⟩
          rw [hr] at this
          cases this
      have t1 := no h q1 e1 (by omega) fun e he hb => hq _ (g1 e he hb)
      have t2 := no (h + 1) q2 e2 (by omega) fun e he hb => by
        rcases Nat.lt_or_ge e.on h with c | c
        · exact hq _ c
        · rw [show e.on = h from Nat.le_antisymm (g2 e he hb) c]; exact t1
      have t3 := no (h + 2) q3 e3 (by omega) fun e he hb => hq _ (g3 e he hb)
      have t4 := no (h + 3) q4 e4 (by omega) fun e he hb => by
        rcases g4 e he hb with c | c
        · exact hq _ c
        · rw [c]; exact t3
      rw [t1] at l1
      rw [t2] at l2
      rw [t3] at l3
      rw [t4] at l4
      subst l1; subst l2; subst l3; subst l4
      exact fin r t' m' a w hg ht hm htt hnx hmm hQ
    · obtain ⟨h0, o, ho, hed⟩ := mem_ready.1 hi
      have hi4 : i < h + 4 := by rw [← hsz]; exact (Array.getElem?_eq_some_iff.1 ho).1
      rw [getD_true (by omega)] at h0
      have hge : h ≤ i := by
        rcases Nat.lt_or_ge i h with c | c
        · rw [hq i c] at h0; cases h0
        · exact c
      have sL := setL L i hL hi4
      unfold wpOp
      rw [ho]
      obtain c | c | c | c : i = h ∨ i = h + 1 ∨ i = h + 2 ∨ i = h + 3 := by omega
      · subst c
        rw [e1] at ho
        cases ho
        have hx1 : x1 = false := l1.symm.trans h0
        have hs1f : s1 = false := by cases s1 with | false => rfl | true => rw [c1' rfl] at hx1; cases hx1
        subst hx1; subst hs1f
        simp only [wanted_none w3, if_true]
        left
        have hev : evP T t' q1.op = some (.ptr b1 o1) := by
          rw [w1, ← evP_congr (fun x hx => ev_off off (f1 x hx)), hp1]
        obtain ⟨v', e, hv⟩ := evP_ok hT w hg ht hev
        unfold Oper.wp
        rw [e]
        show wpAny P .any ops Q fuel _ (a.put q1.dst v') w
        rw [w2]
        refine ih _ true false x2 s2 r (t'.put d1 (.ptr b1 o1)) m' _ w (by simpa using hL) (fun q hqh => by rw [sL, if_neg (by omega)]; exact hq q hqh) (by rw [sL, if_pos rfl]) (by rw [sL, if_neg (by omega)]; exact l2) (by rw [sL, if_neg (by omega)]; exact l3) (by rw [sL, if_neg (by omega)]; exact l4)
          (fun _ => rfl) c2' (by simp at hcnt ⊢; omega) hg (ht.put hv hd1 (hfr i q1 d1 e1 w2)) hm (fun u => ?_) hnx hmm hQ
        rw [Tree.get_put, htt u]
        by_cases c : d1 = u
        · subst c
          rw [if_pos rfl, if_neg (fun h => hd h.2), if_pos ⟨rfl, rfl⟩]
        · rw [if_neg c]
          by_cases c3 : x2 = true ∧ u = d2
          · rw [if_pos c3, if_pos c3]
          · rw [if_neg c3, if_neg c3, if_neg (fun h => by cases h.1), if_neg (fun h => c h.2.symm)]
      · subst c
        rw [e2] at ho
        cases ho
        have hx1 : x1 = true := by
          obtain ⟨e, he, hb2, hon⟩ := i2
          have := hed e he hb2
          rw [hon, l1] at this
          exact this
        have hs1f : s1 = false := l2.symm.trans h0
        subst hx1; subst hs1f
        simp only [wanted_none w6, if_true]
        left
        have hv1 : ev T t' (.tmp d1) = .ptr b1 o1 := by
          simp only [ev]
          rw [htt d1, if_neg (fun h => hd h.2), if_pos ⟨rfl, rfl⟩]
        have hst : storeOp T m' u1 (.ptr b1 o1) (ev T t' v1) = .val y1 (m'.set b1 c1) := by
          rw [← ev_off off f3]
          exact hs1 m' (by rw [hmm b1, if_neg (fun h => hb h.2), if_neg (fun h => by cases h.1)])
        refine evOne_ok hT hcall hg ht hm ?_
        have hone : evOne T callF t' m' q2.op = .ok y1 (m'.set b1 c1) := by
          rw [w4]
          simp only [evOne, kindOf, evW, hv1, hst]
        rw [hone]
        intro r' v' w' hv hg' hstep
        rw [w5]
        refine ih _ true true x2 s2 r' t' (m'.set b1 c1) a w' (by simpa using hL) (fun q hqh => by rw [sL, if_neg (by omega)]; exact hq q hqh) (by rw [sL, if_neg (by omega)]; exact l1) (by rw [sL, if_pos rfl]) (by rw [sL, if_neg (by omega)]; exact l3) (by rw [sL, if_neg (by omega)]; exact l4)
          (fun _ => rfl) c2' (by simp at hcnt ⊢; omega) hg' (ht.mono hstep.le) hstep.mem htt hnx (fun b => ?_) (fun r2 a2 w2 a b c => hQ r2 a2 w2 a b (hstep.trans c))
        rw [AMem.get_set', hmm b]
        by_cases c : b1 = b
        · subst c
          rw [if_pos rfl, if_neg (fun h => hb h.2), if_pos ⟨rfl, rfl⟩]
        · rw [if_neg c]
          by_cases c3 : s2 = true ∧ b = b2
          · rw [if_pos c3, if_pos c3]
          · rw [if_neg c3, if_neg c3, if_neg (fun h => by cases h.1), if_neg (fun h => c h.2.symm)]
      · subst c
        rw [e3] at ho
        cases ho
        have hx2 : x2 = false := l3.symm.trans h0
        have hs2f : s2 = false := by cases s2 with | false => rfl | true => rw [c2' rfl] at hx2; cases hx2
        subst hx2; subst hs2f
        simp only [wanted_none z3, if_true]
        left
        have hev : evP T t' q3.op = some (.ptr b2 o2) := by
          rw [z1, ← evP_congr (fun x hx => ev_off off (f2 x hx)), hp2]
        obtain ⟨v', e, hv⟩ := evP_ok hT w hg ht hev
        unfold Oper.wp
        rw [e]
        show wpAny P .any ops Q fuel _ (a.put q3.dst v') w
        rw [z2]
        refine ih _ x1 s1 true false r (t'.put d2 (.ptr b2 o2)) m' _ w (by simpa using hL) (fun q hqh => by rw [sL, if_neg (by omega)]; exact hq q hqh) (by rw [sL, if_neg (by omega)]; exact l1) (by rw [sL, if_neg (by omega)]; exact l2) (by rw [sL, if_pos rfl]) (by rw [sL, if_neg (by omega)]; exact l4)
          c1' (fun _ => rfl) (by simp at hcnt ⊢; omega) hg (ht.put hv hd2 (hfr (h + 2) q3 d2 e3 z2)) hm (fun u => ?_) hnx hmm hQ
        rw [Tree.get_put, htt u]
        by_cases c : d2 = u
        · subst c
          rw [if_pos rfl, if_pos ⟨rfl, rfl⟩]
        · rw [if_neg c, if_neg (c := false = true ∧ u = d2) (fun h => by cases h.1), if_neg (c := true = true ∧ u = d2) (fun h => c h.2.symm)]
      · subst c
        rw [e4] at ho
        cases ho
        have hx2 : x2 = true := by
          obtain ⟨e, he, hb2, hon⟩ := i4
          have := hed e he hb2
          rw [hon, l3] at this
          exact this
        have hs2f : s2 = false := l4.symm.trans h0
        subst hx2; subst hs2f
        simp only [wanted_none z6, if_true]
        left
        have hv2 : ev T t' (.tmp d2) = .ptr b2 o2 := by
          simp only [ev]
          rw [htt d2, if_pos ⟨rfl, rfl⟩]
        have hst : storeOp T m' u2 (.ptr b2 o2) (ev T t' v2) = .val y2 (m'.set b2 c2) := by
          rw [← ev_off off f4]
          exact hs2 m' (by rw [hmm b2, if_neg (fun h => by cases h.1), if_neg (fun h => hb h.2.symm)])
        refine evOne_ok hT hcall hg ht hm ?_
        have hone : evOne T callF t' m' q4.op = .ok y2 (m'.set b2 c2) := by
          rw [z4]
          simp only [evOne, kindOf, evW, hv2, hst]
        rw [hone]
        intro r' v' w' hv hg' hstep
        rw [z5]
        refine ih _ x1 s1 true true r' t' (m'.set b2 c2) a w' (by simpa using hL) (fun q hqh => by rw [sL, if_neg (by omega)]; exact hq q hqh) (by rw [sL, if_neg (by omega)]; exact l1) (by rw [sL, if_neg (by omega)]; exact l2) (by rw [sL, if_neg (by omega)]; exact l3) (by rw [sL, if_pos rfl])
          c1' (fun _ => rfl) (by simp at hcnt ⊢; omega) hg' (ht.mono hstep.le) hstep.mem htt hnx (fun b => ?_) (fun r2 a2 w2 a b c => hQ r2 a2 w2 a b (hstep.trans c))
        rw [AMem.get_set', hmm b]
        by_cases c : b2 = b
        · subst c
          rw [if_pos rfl, if_pos ⟨rfl, rfl⟩]
        · rw [if_neg c, if_neg (c := false = true ∧ b = b2) (fun h => by cases h.1), if_neg (c := true = true ∧ b = b2) (fun h => c h.2.symm)]

/-- A drawn region, cut or not. -/
theorem any_ok {T : Tab} {P : Program} (hT : TabOk T P) {callF : FuncId → List AVal → AMem → Out AVal} (hcall : ∀ f, CallOk T P f (callF f)) {n : Nat} {ops : Array Oper} {Q : Exit → Act → World → Prop} {r : Ren} {t : Tree AVal} {a : Act} {m : AMem} {w : World}
    (hfr : D.frees ops) (hg : GlobOk T r) (ht : TRel D r t n a) (hm : MemRel r m.next m.get w) (h : OpsSat D T n r m w (evAny T callF n ops t m) Q) : wpAny P .any ops Q ops.size (Array.replicate ops.size false) a w := by
  unfold evAny at h
  split at h
  · exact draw_ok hT hcall hfr hg ht hm h
  · rename_i c hc
    unfold cutOf at hc
    split at hc
    · rename_i q1 q2 q3 q4 hl
      split at hc
      · rename_i p1 d1 u1 v1 p2 d2 u2 v2 k1 k2
        split at hc
        · rename_i hcond
          cases hc
          simp only [Bool.and_eq_true] at hcond
          obtain ⟨⟨⟨⟨⟨⟨⟨⟨⟨⟨⟨⟨⟨⟨⟨a1, a2⟩, a3⟩, a4⟩, a5⟩, b1⟩, b2⟩, b3⟩, b4⟩, c1⟩, c2⟩, c3⟩, c4⟩, j2⟩, j4⟩, gg⟩ := hcond
          have hsz : ops.size = ops.size - 4 + 4 := by
            have := congrArg List.length hl
            simp at this
            omega
          generalize hh : ops.size - 4 = hd at *
          have at_ : ∀ j, ops[hd + j]? = ([q1, q2, q3, q4] : List Oper)[j]? := by
            intro j
            rw [← hl, List.getElem?_drop, Array.getElem?_toList]
          have e1 : ops[hd]? = some q1 := at_ 0
          have e2 : ops[hd + 1]? = some q2 := at_ 1
          have e3 : ops[hd + 2]? = some q3 := at_ 2
          have e4 : ops[hd + 3]? = some q4 := at_ 3
          have hget : ∀ i, i < hd → (ops.extract 0 hd)[i]? = ops[i]? := by
            intro i hi
            rw [Array.getElem?_extract]
            rw [if_pos (by omega), Nat.zero_add]
          have hgd : ∀ (i : Nat) (o : Oper), i < hd → ops[i]? = some o → ∀ j b, o.guard = some (j, b) → j < hd := by
            intro i o hi ho j b hgu
            have hmem : o ∈ (ops.extract 0 hd).toList := by
              have := (hget i hi).trans ho
              rw [← Array.getElem?_toList] at this
              exact List.mem_of_getElem? this
            have := List.all_eq_true.1 gg o hmem
            simp only [guardsIn, hgu] at this
            exact Nat.le_of_ble_eq_true this
          have hhd : (ops.extract 0 hd).size = hd := by simp; omega
          have hback : ∀ (i : Nat) (o : Oper), i < hd → ops[i]? = some o → ∀ e ∈ o.after, Region.binds .any e = true → e.on < i := by
            intro i o hi ho e he hb
            cases hp : masks (ops.extract 0 hd).toList 0 .leaf with
            | none =>
              simp only [evDraw, hp] at h
              exact h.elim
            | some pre =>
              obtain ⟨_, m2⟩ := masks_spec (ops.extract 0 hd).toList 0 .leaf pre (fun _ _ => rfl) (fun j k e => by cases e) hp
              have hx := m2 i o (by rw [Array.getElem?_toList]; exact (hget i hi).trans ho)
              rw [Nat.zero_add] at hx
              obtain ⟨_, _, _, hed⟩ := hx
              exact hed e he hb
          have hhead : OpsSat D T n r m w (evDraw T callF n (ops.extract 0 hd) t m) (HeadQ P ops hd Q) := by
            cases hx : evDraw T callF n (ops.extract 0 hd) t m with
            | fail why => rw [hx] at h; exact h.elim
            | pan v m' =>
              rw [hx] at h
              exact fun r' a' v' w' x1 x2 x3 => h r' a' v' w' x1 x2 x3
            | ok t1 m1 =>
              rw [hx] at h
              simp only [evTail] at h
              intro r1 a1' w1 ht1 hg1 hst1 k hk
              split at h
              · rename_i y1 o1 y2 o2 hp1 hp2
                split at h
                · exact h.elim
                · rename_i hne
                  split at h
                  · rename_i z1 n1 hs1
                    split at h
                    · rename_i z2 n2 hs2
                      split at h
                      · rename_i hlt
                        rw [Bool.and_eq_true] at hlt
                        obtain ⟨x1, rfl, r1'⟩ := storeOp_at hs1
                        obtain ⟨x2, rfl, r2'⟩ := storeOp_at hs2
                        have hb12 : y1 ≠ y2 := Nat.ne_of_beq_eq_false hne
                        have hsz2 : ops.size - hd = 4 := by omega
                        rw [hsz2] at hk ⊢
                        have hL : ∀ q, (Array.replicate hd true ++ Array.replicate 4 false).getD q false = if q < hd then true else false := by
                          intro q
                          rw [Array.getD_eq_getD_getElem?]
                          by_cases c : q < hd
                          · rw [Array.getElem?_append_left (by simpa using c), Array.getElem?_replicate, if_pos c, if_pos c]
                            rfl
                          · rw [Array.getElem?_append_right (by simpa using c), Array.getElem?_replicate, if_neg c]
                            split <;> rfl
                        refine tail_ok hT hcall hfr hsz e1 e2 e3 e4 k1 k2 (fun e => by rw [e] at a1; simp at a1) (Nat.le_of_ble_eq_true hlt.1) (Nat.le_of_ble_eq_true hlt.2)
                          (fun x hx => List.all_eq_true.1 a2 x (by simpa using hx)) (fun x hx => List.all_eq_true.1 a3 x (by simpa using hx)) a4 a5
                          (fun e he hb => Nat.le_of_ble_eq_true (edgesIn_spec c1 e he hb)) (fun e he hb => Nat.le_of_ble_eq_true (edgesIn_spec c2 e he hb)) (fun e he hb => Nat.le_of_ble_eq_true (edgesIn_spec c3 e he hb))
                          (fun e he hb => by
                            have := edgesIn_spec c4 e he hb
                            rw [Bool.or_eq_true] at this
                            exact this.imp (fun q => Nat.le_of_ble_eq_true q) (fun q => Nat.eq_of_beq_eq_true q)) (hasEdge_spec j2) (hasEdge_spec j4)
                          hp1 hp2 hb12 r1' (fun m2 hm2 => r2' m2 (by rw [hm2, AMem.get_set', if_neg hb12])) k _ false false false false r1 t1 m1 a1' w1 (by simp) (fun q hq => by rw [hL, if_pos hq])
                          (by rw [hL, if_neg (by omega)]) (by rw [hL, if_neg (by omega)]) (by rw [hL, if_neg (by omega)]) (by rw [hL, if_neg (by omega)]) (fun e => by cases e) (fun e => by cases e) (by simp; omega) hg1 ht1 hst1.mem
                          (fun u => by rw [if_neg (fun h => by cases h.1), if_neg (fun h => by cases h.1)]) rfl (fun b => by rw [if_neg (fun h => by cases h.1), if_neg (fun h => by cases h.1)]) ?_
                        intro r' a' w' x1 x2 x3
                        exact h r' a' w' x1 x2 (hst1.trans x3)
                      · exact h.elim
                    · exact h.elim
                  · exact h.elim
              · exact h.elim
          have hw := draw_ok hT hcall (fun i o d ho hd' => hfr i o d ((hget i (by rw [← hhd]; exact (Array.getElem?_eq_some_iff.1 ho).1)).symm.trans ho) hd') hg ht hm hhead
          have hall : ∀ (i : Nat) (o : Oper), hd ≤ i → ops[i]? = some o → ∀ q, q < hd → ∃ e ∈ o.after, Region.binds .any e = true ∧ e.on = q := by
            intro i o hi ho
            have hlt := (Array.getElem?_eq_some_iff.1 ho).1
            obtain c | c | c | c : i = hd ∨ i = hd + 1 ∨ i = hd + 2 ∨ i = hd + 3 := by omega
            · subst c; rw [e1] at ho; cases ho; exact edgesAll_spec b1
            · subst c; rw [e2] at ho; cases ho; exact edgesAll_spec b2
            · subst c; rw [e3] at ho; cases ho; exact edgesAll_spec b3
            · subst c; rw [e4] at ho; cases ho; exact edgesAll_spec b4
          have := wpAny_cut (by omega) hget hback hall hgd hd (Array.replicate hd false) a w (by simp) (by rw [hhd] at hw; exact hw)
          rw [show hd + (ops.size - hd) = ops.size by omega] at this
          have hrep : Array.replicate hd false ++ Array.replicate (ops.size - hd) false = Array.replicate ops.size false := by
            rw [Array.replicate_append_replicate]
            congr 1
            omega
          rw [hrep] at this
          exact this
        · cases hc
      · cases hc
    · cases hc

theorem region_ok {T : Tab} {P : Program} (hT : TabOk T P) (hmix : P.follows .mixedOrders = true) {callF : FuncId → List AVal → AMem → Out AVal} (hcall : ∀ f, CallOk T P f (callF f)) (n : Nat) : RegionOk D T P callF n := by
  intro id ops draw Q r t a m w hfr hg ht hm h
  cases draw with
  | false =>
    simp only [evRegion] at h
    cases hsel : selOf ops.toList with
    | none =>
      rw [hsel] at h
      have := evOps_ok hT hcall (ops := ops) hfr ops.toList 0 rfl hg ht hm h
      refine wp_region ?_
      rw [List.range_eq_range']
      simpa using this
    | some x =>
      obtain ⟨o, sc, bl, rest⟩ := x
      rw [hsel] at h
      simp only at h
      obtain ⟨e1, e2, e3⟩ := selOf_spec hsel
      have h0 : ops[0]? = some o := by rw [← Array.getElem?_toList, e1]; rfl
      have hsz : List.range ops.size = 0 :: List.range' 1 rest.length := by
        have : ops.size = rest.length + 1 := by rw [← Array.length_toList, e1]; rfl
        rw [this, List.range_eq_range', List.range'_succ]
      split at h
      · rename_i v m' hv
        split at h
        · rename_i t' hp
          obtain ⟨v', w', hvr, hst, hstep⟩ := selectOp_ok hT h0 e2 e3 hg ht hm hv
          have hw := evOps_ok hT hcall (ops := ops) hfr rest 1 (by rw [e1]; rfl) (hg.mono hst.le) (putDst_ok (ht.mono hst.le) hvr (fun d e => hfr 0 o d h0 e) hp) hst.mem (h.trans hst)
          intro b k cs
          obtain ⟨e, a2, w2, q2, arr⟩ := wp_ops _ _ _ hw b k cs
          have s1 := step_region (P := P) (b := b) (a := a) (k := k) (cs := cs) (w := w) (ops := ops) (id := id)
          rw [hsz] at s1
          exact ⟨e, a2, w2, q2, .of_steps (.head s1 (.one (hstep b k cs _))) arr⟩
        · exact h.elim
      · exact h.elim
  | true =>
    simp only [evRegion] at h
    refine wp_region_any hmix ?_
    exact any_ok hT hcall hfr hg ht (MemRel.heap hm rfl) (h.trans (Step.same hm (Nat.le_refl _) rfl rfl rfl rfl))

/-- THE EVALUATOR IS SOUND. -/
theorem evFn_sound {T : Tab} {P : Program} (hT : TabOk T P) (hmix : P.follows .mixedOrders = true) (hspec : ∀ f F, T.spec f = some F → CallOk T P f F) (k : Nat) (f : FuncId) : CallOk T P f (evFn T k f) :=
  evFn_ok hT hspec (fun _ hcall n => region_ok hT hmix hcall n) k f
end Ev
end Go.Proofs.YtjmapihogpdocaaGreatDoor

/-! ## EvDefer -/
namespace Go.Proofs.YtjmapihogpdocaaGreatDoor
namespace Ev
open Go
noncomputable section

def isRecover (o : Op) : Bool :=
  match o with
  | .call c => match c.callee with | .builtin .recover => true | _ => false
  | _ => false

def deferOf (o : Op) : Option Call :=
  match o with
  | .defer c => some c
  | _ => none

/-- The operations up to the deferred call. -/
def evHead (T : Tab) (callF : FuncId → List AVal → AMem → Out AVal) (n : Nat) (all : Array Oper) : List Oper → Tree AVal → AMem → Option (Tree AVal × AMem × FuncId × List AVal × List Oper)
  | [], _, _ => none
  | o :: rest, t, m => match wantedOp all t o with
    | some true => match deferOf o.op with
      | some c => match c.callee with
        | .value f => match ev T t f with
          | .func (.func g) first captured => match putDst n t o.dst (.tuple []) with
            | some t' => some (t', m, g, first ++ evList T t c.args ++ captured, rest)
            | none => none
          | _ => none
        | _ => none
      | none => match evOne T callF t m o.op with
        | .ok v m' => match putDst n t o.dst v with
          | some t' => evHead T callF n all rest t' m'
          | none => none
        | _ => none
    | _ => none

/-- A region of the deferred function, in which it recovers. -/
def evRec (T : Tab) (callF : FuncId → List AVal → AMem → Out AVal) (n : Nat) (all : Array Oper) : List Oper → Option AVal → Tree AVal → AMem → Option (Tree AVal × AMem)
  | [], rv, t, m => match rv with | none => some (t, m) | some _ => none
  | o :: rest, rv, t, m => match wantedOp all t o with
    | none => none
    | some false => match putDst n t o.dst (.tuple []) with
      | some t' => evRec T callF n all rest rv t' m
      | none => none
    | some true => match isRecover o.op with
      | true => match rv with
        | some v => match putDst n t o.dst v with
          | some t' => evRec T callF n all rest none t' m
          | none => none
        | none => none
      | false => match evOne T callF t m o.op with
        | .ok v m' => match putDst n t o.dst v with
          | some t' => evRec T callF n all rest rv t' m'
          | none => none
        | _ => none

def evClos (T : Tab) (callF : FuncId → List AVal → AMem → Out AVal) (fuel : Nat) (fn : Func) (rv : AVal) (args : List AVal) (m : AMem) : Option AMem :=
  match fn.body with
  | some (.seq (.region _ ops false) c) => match Nat.ble args.length fn.ntmps with
    | true => match evRec T callF fn.ntmps ops ops.toList (some rv) (argTree args) m with
      | some (t, m1) => match evCode T callF fuel fn.ntmps c t m1 with
        | .ok (.normal, t2) m2 | .ok (.ret, t2) m2 => match resultsOf T t2 m2 fn.results.toList with
          | some _ => some m2
          | none => none
        | _ => none
      | none => none
    | false => none
  | _ => none

def inList (u : Nat) : List Nat → Bool
  | [] => false
  | x :: r => match Nat.beq u x with | true => true | false => inList u r

def opsFree (S : List Nat) : List Oper → Bool
  | [] => true
  | o :: r => match o.dst with
    | none => opsFree S r
    | some d => match inList d S with | true => false | false => opsFree S r

def codeFree (S : List Nat) : Code → Bool
  | .region _ ops _ => opsFree S ops.toList
  | .seq a b => match codeFree S a with | true => codeFree S b | false => false
  | .cond _ a b => match codeFree S a with | true => codeFree S b | false => false
  | .block _ a => codeFree S a
  | .loop a => codeFree S a
  | _ => true

def pinsOf : List ResultVar → List Nat
  | [] => []
  | .tmp i :: r => i :: pinsOf r
  | .cell b _ :: r => b :: pinsOf r

def pinTree (t : Tree AVal) : List Nat → Tree AVal
  | [] => .leaf
  | u :: r => match t.get u with
    | some v => (pinTree t r).put u v
    | none => pinTree t r

def evFin (T : Tab) (fn : Func) (t : Tree AVal) : Option AMem → Out AVal
  | some m => match resultsOf T t m fn.results.toList with
    | some vs => .ok (oneResult vs) m
    | none => .fail "results"
  | none => .fail "deferred"

def evDef (T : Tab) (callF : FuncId → List AVal → AMem → Out AVal) (fuel : Nat) (fn : Func) (args : List AVal) (m : AMem) : Out AVal :=
  match fn.body with
  | some (.seq x (.seq (.region _ ops false) c)) => match Nat.ble args.length fn.ntmps with
    | true => match evCode T callF fuel fn.ntmps x (argTree args) m with
      | .ok (.normal, t0) m0 => match evHead T callF fn.ntmps ops ops.toList t0 m0 with
        | some (t1, m1, g, dargs, []) => match codeFree (pinsOf fn.results.toList) c with
          | true => match T.fn g with
            | some gn => match evCode T callF fuel fn.ntmps c t1 m1 with
              | .ok (.normal, t2) m2 | .ok (.ret, t2) m2 => evFin T fn t2 (evClos T callF fuel gn .niface dargs m2)
              | .pan v m2 => evFin T fn (pinTree t1 (pinsOf fn.results.toList)) (evClos T callF fuel gn v dargs m2)
              | .fail w => .fail w
              | _ => .fail "exit"
            | none => .fail "fn"
          | false => .fail "pins"
        | _ => .fail "head"
      | .fail w => .fail w
      | _ => .fail "head"
    | false => .fail "args"
  | _ => .fail "body"

section
variable {T : Tab} {P : Program} (hT : TabOk T P)

theorem inList_mem {u : Nat} : ∀ {l : List Nat}, u ∈ l → inList u l = true := by
  intro l
  induction l with
  | nil => intro h; cases h
  | cons x r ih =>
    intro h
    simp only [inList]
    cases e : Nat.beq u x with
    | true => rfl
    | false =>
      rcases List.mem_cons.1 h with c | c
      · subst c; rw [Nat.beq_refl] at e; cases e
      · exact ih c

theorem opsFree_spec {S : List Nat} : ∀ {l : List Oper}, opsFree S l = true → ∀ o d, o ∈ l → o.dst = some d → d ∉ S := by
  intro l
  induction l with
  | nil => intro _ o d h; cases h
  | cons x r ih =>
    intro h o d hm hd hS
    simp only [opsFree] at h
    rcases List.mem_cons.1 hm with c | c
    · subst c
      rw [hd] at h
      simp only [inList_mem hS] at h
      cases h
    · split at h
      · exact ih h o d c hd hS
      · split at h
        · cases h
        · exact ih h o d c hd hS

theorem codeFree_avoids {S : List Nat} {D : Keep} (hD : ∀ u, u ∉ S → D.pin u = none) : ∀ {c : Code}, codeFree S c = true → D.avoids c := by
  intro c
  induction c with
  | region id ops draw =>
    intro h i o d hi hd
    exact hD d (opsFree_spec h o d (by rw [← Array.getElem?_toList] at hi; exact List.mem_of_getElem? hi) hd)
  | seq a b iha ihb =>
    intro h
    simp only [codeFree] at h
    split at h
    · rename_i ha; exact ⟨iha ha, ihb h⟩
    · cases h
  | cond c a b iha ihb =>
    intro h
    simp only [codeFree] at h
    split at h
    · rename_i ha; exact ⟨iha ha, ihb h⟩
    · cases h
  | block id a iha => intro h; exact iha h
  | loop a iha => intro h; exact iha h
  | _ => intro _; trivial

theorem pinTree_get {t : Tree AVal} : ∀ {S : List Nat} {u : Nat} {v : AVal}, (pinTree t S).get u = some v → u ∈ S ∧ t.get u = some v := by
  intro S
  induction S with
  | nil => intro u v h; simp [pinTree, Tree.get_leaf] at h
  | cons x r ih =>
    intro u v h
    simp only [pinTree] at h
    split at h
    · rename_i y hy
      rw [Tree.get_put] at h
      split at h
      · rename_i c; cases h; subst c; exact ⟨List.mem_cons_self, hy⟩
      · obtain ⟨a, b⟩ := ih h
        exact ⟨List.mem_cons_of_mem _ a, b⟩
    · obtain ⟨a, b⟩ := ih h
      exact ⟨List.mem_cons_of_mem _ a, b⟩

theorem deferOf_spec {o : Op} {c : Call} (h : deferOf o = some c) : o = .defer c := by
  cases o <;> simp [deferOf] at h
  subst h; rfl

theorem isRecover_spec {ρ : Operand → Value} {o : Oper} (h : isRecover o.op = true) (w : World) : (execOp ρ o).run P w = .ok .recover w := by
  cases ho : o.op <;> rw [ho] at h <;> simp [isRecover] at h
  rename_i c
  split at h
  · rename_i hc
    simp only [execOp, ho, resolve, hc]
    simp [invoke, builtin]
  · cases h

include hT in
theorem evHead_ok {callF : FuncId → List AVal → AMem → Out AVal} (hcall : ∀ f, CallOk T P f (callF f)) {n : Nat} {ops : Array Oper} {Q : Exit → Act → World → Prop} :
    ∀ (rest : List Oper) (k : Nat), ops.toList.drop k = rest → ∀ {r : Ren} {t : Tree AVal} {a : Act} {m : AMem} {w : World} {t1 : Tree AVal} {m1 : AMem} {g : FuncId} {args : List AVal} {rest1 : List Oper},
      GlobOk T r → TRel Keep.none r t n a → MemRel r m.next m.get w → evHead T callF n ops rest t m = some (t1, m1, g, args, rest1) →
      (∀ (k1 : Nat) (r' : Ren) (a' : Act) (w' : World) (fv : Fn) (cap dargs args' : Array Value), ops.toList.drop k1 = rest1 → VsRel r' args args'.toList → invoke (.fn fv cap) dargs = callFunc g args' →
        TRel ⟨[⟨.fn fv cap, dargs⟩], fun _ => none⟩ r' t1 n a' → GlobOk T r' → Step r m.next m.get w r' m1.next m1.get w' → wpOps P ops Q (List.range' k1 rest1.length) a' w') →
      wpOps P ops Q (List.range' k rest.length) a w := by
  intro rest
  induction rest with
  | nil => intro k _ r t a m w t1 m1 g args rest1 _ _ _ h; cases h
  | cons o rest ih =>
    intro k hk r t a m w t1 m1 g args rest1 hg ht hm h hQ
    have ho : ops[k]? = some o := by
      rw [← Array.getElem?_toList]
      have := congrArg (fun l => l[0]?) hk
      simpa [List.getElem?_drop] using this
    have hk2 : ops.toList.drop (k + 1) = rest := by
      have := congrArg (fun l => l.drop 1) hk
      simpa [List.drop_drop] using this
    simp only [List.length_cons, List.range'_succ, wpOps, ho]
    simp only [evHead] at h
    split at h
    · rename_i hw
      rw [wanted_ok ht hw]
      simp only [if_true]
      left
      split at h
      · rename_i c hc
        have hop := deferOf_spec hc
        split at h
        · rename_i fo hcal
          split at h
          · rename_i g' first captured hf
            split at h
            · rename_i t' hp
              cases h
              have hf2 := ev_rel (T := T) hg ht fo
              rw [hf] at hf2
              obtain ⟨f', c', e, h1, h2⟩ := hf2.func_inv
              have hx : (execOp a.eval o).run P w = .ok (.defer ⟨.fn (.func g) c', f' ++ c.args.map a.eval⟩) w := by
                simp only [execOp, hop, resolve, hcal, Deferred.ofValue, e]
                rfl
              unfold Oper.wp
              rw [hx]
              have ht2 := putDst_ok ht (undef_rel r) (fun _ _ => rfl) hp
              refine hQ (k + 1) r _ w (.func g) c' (f' ++ c.args.map a.eval) (f' ++ c.args.map a.eval ++ c') hk2 ?_ rfl ?_ hg (.refl hm)
              · rw [Array.toList_append, Array.toList_append]
                exact (h1.append (evList_rel (T := T) hg ht c.args)).append h2
              · have hd := ht.calm.1
                refine ⟨?_, fun i v hv => ?_, ?_, fun _ _ e => by cases e⟩
                · have := ht2.size
                  cases hod : o.dst <;> rw [hod] at this <;> simpa [Act.put] using this
                · have := ht2.at_ i v hv
                  cases hod : o.dst <;> rw [hod] at this <;> simpa [Act.put] using this
                · cases o.dst <;> simp [Act.put, hd, Keep.none]
            · cases h
          · cases h
        · cases h
      · refine evOne_ok hT hcall hg ht hm ?_
        split at h
        · rename_i v m' hone
          rw [hone]
          split at h
          · rename_i t' hp
            intro r' v' w' hv hg' hst
            exact ih (k + 1) hk2 hg' (putDst_ok (ht.mono hst.le) hv (fun _ _ => rfl) hp) hst.mem h fun k1 r2 a2 w2 fv cap dargs args' q1 q2 q3 q4 q5 q6 => hQ k1 r2 a2 w2 fv cap dargs args' q1 q2 q3 q4 q5 (hst.trans q6)
          · cases h
        · cases h
    · cases h

/-- What a call of recover finds. -/
def RecSt (r : Ren) (rv : Option AVal) (cs cs1 : List Frame) : Prop :=
  match rv with
  | none => cs = cs1
  | some v => (∃ v', recoverD cs = some (v', cs1) ∧ VRel r v v') ∨ (recoverD cs = none ∧ v = .niface ∧ cs = cs1)

theorem RecSt.mono {r r' : Ren} {rv : Option AVal} {cs cs1 : List Frame} (h : RecSt r rv cs cs1) (hle : r.le r') : RecSt r' rv cs cs1 := by
  cases rv with
  | none => exact h
  | some v =>
    rcases h with ⟨v', e, hv⟩ | h
    · exact .inl ⟨v', e, hv.mono hle⟩
    · exact .inr h

include hT in
theorem evRec_ok {callF : FuncId → List AVal → AMem → Out AVal} (hcall : ∀ f, CallOk T P f (callF f)) {n : Nat} {ops : Array Oper} {Q : Exit → Act → List Frame → World → Prop} {cs1 : List Frame} :
    ∀ (rest : List Oper) (k : Nat), ops.toList.drop k = rest → ∀ {r : Ren} {t : Tree AVal} {a : Act} {m : AMem} {w : World} {cs : List Frame} {rv : Option AVal} {t1 : Tree AVal} {m1 : AMem},
      GlobOk T r → TRel Keep.none r t n a → MemRel r m.next m.get w → RecSt r rv cs cs1 → evRec T callF n ops rest rv t m = some (t1, m1) →
      (∀ (r' : Ren) (a' : Act) (w' : World), TRel Keep.none r' t1 n a' → GlobOk T r' → Step r m.next m.get w r' m1.next m1.get w' → Q .normal a' cs1 w') →
      wpOpsS P ops Q (List.range' k rest.length) a cs w := by
  intro rest
  induction rest with
  | nil =>
    intro k _ r t a m w cs rv t1 m1 hg ht hm hr h hQ
    simp only [evRec] at h
    split at h
    · cases h
      have : cs = cs1 := hr
      subst this
      exact hQ r a w ht hg (.refl hm)
    · cases h
  | cons o rest ih =>
    intro k hk r t a m w cs rv t1 m1 hg ht hm hr h hQ
    have ho : ops[k]? = some o := by
      rw [← Array.getElem?_toList]
      have := congrArg (fun l => l[0]?) hk
      simpa [List.getElem?_drop] using this
    have hk2 : ops.toList.drop (k + 1) = rest := by
      have := congrArg (fun l => l.drop 1) hk
      simpa [List.drop_drop] using this
    simp only [List.length_cons, List.range'_succ, wpOpsS, ho]
    simp only [evRec] at h
    split at h
    · cases h
    · rename_i hw
      rw [wanted_ok ht hw]
      simp only [Bool.false_eq_true, if_false]
      split at h
      · rename_i t' hp
        exact ih (k + 1) hk2 hg (putDst_ok ht (undef_rel r) (fun _ _ => rfl) hp) hm hr h hQ
      · cases h
    · rename_i hw
      rw [wanted_ok ht hw]
      simp only [if_true]
      split at h
      · rename_i hrec
        rw [isRecover_spec hrec]
        simp only
        split at h
        · rename_i v
          split at h
          · rename_i t' hp
            rcases hr with ⟨v', e, hv⟩ | ⟨e, rfl, rfl⟩
            · rw [e]
              exact ih (k + 1) hk2 hg (putDst_ok ht hv (fun _ _ => rfl) hp) hm (show RecSt _ none _ _ from rfl) h hQ
            · rw [e]
              exact ih (k + 1) hk2 hg (putDst_ok ht .niface (fun _ _ => rfl) hp) hm (show RecSt _ none _ _ from rfl) h hQ
          · cases h
        · cases h
      · have key : o.wp P a w (fun a' w' => wpOpsS P ops Q (List.range' (k + 1) rest.length) a' cs w') (fun e a' w' => Q e a' cs w') := by
          refine evOne_ok hT hcall hg ht hm ?_
          split at h
          · rename_i v m' hone
            rw [hone]
            split at h
            · rename_i t' hp
              intro r' v' w' hv hg' hst
              exact ih (k + 1) hk2 hg' (putDst_ok (ht.mono hst.le) hv (fun _ _ => rfl) hp) hst.mem (hr.mono hst.le) h fun r2 a2 w2 q1 q2 q3 => hQ r2 a2 w2 q1 q2 (hst.trans q3)
            · cases h
          · cases h
        unfold Oper.wp at key
        generalize (execOp a.eval o).run P w = R at key ⊢
        split
        · exact key.elim
        · exact key

/-- What results are. -/
theorem results_run {fn : Func} {a : Act} : ∃ F : ResultVar → Sem Value, results fn a.tmps = (do let vs ← fn.results.mapM F; pure (if h : vs.size = 1 then vs[0] else .tuple vs)) ∧
    (∀ i, F (.tmp i) = pure (a.tmps.getD i undef)) ∧ (∀ b u, F (.cell b u) = (do loadVar u (← asAddr (a.tmps.getD b undef)))) := ⟨_, rfl, fun _ => rfl, fun _ _ => rfl⟩

include hT in
theorem results_ok {D : Keep} {fn : Func} {r : Ren} {t : Tree AVal} {n : Nat} {a : Act} {m : AMem} {w : World} {vs : List AVal} (hg : GlobOk T r) (ht : TRel D r t n a) (hm : MemRel r m.next m.get w) (hr : resultsOf T t m fn.results.toList = some vs) :
    ∃ v, (results fn a.tmps).run P w = .ok v w ∧ VRel r (oneResult vs) v := by
  obtain ⟨F, eF, f1, f2⟩ := results_run (fn := fn) (a := a)
  obtain ⟨vs', e, hv⟩ := resultsOf_ok (P := P) hT hg ht hm F f1 f2 hr
  have hlen := hv.len
  refine ⟨if h : vs'.toArray.size = 1 then vs'.toArray[0] else .tuple vs'.toArray, ?_, ?_⟩
  · rw [eF, Array.mapM_eq_mapM_toList]
    simp only [Sem.run_bind, Sem.run_map, e, Result.andThen_ok, Sem.run_pure]
  · cases vs with
    | nil =>
      have := hv.nil_inv
      subst this
      exact .tupleOf (.nil r)
    | cons v vs =>
      cases vs with
      | nil =>
        obtain ⟨v', t', e1, e2, e3⟩ := hv.cons_inv
        have := e3.nil_inv
        subst this
        subst e1
        exact e2
      | cons u us =>
        have hne : ¬ vs'.toArray.size = 1 := by simp; simp at hlen; omega
        rw [dif_neg hne]
        exact .tupleOf hv

include hT in
theorem evClos_ok {callF : FuncId → List AVal → AMem → Out AVal} (hcall : ∀ f, CallOk T P f (callF f)) {fuel : Nat} {g : FuncId} {gn : Func} (hreg : RegionOk Keep.none T P callF gn.ntmps) (hf : P.funcs[g]? = some gn)
    {r : Ren} {w : World} {m m1 : AMem} {rv : AVal} {args : List AVal} {args' : Array Value} {u u1 : FrameMode} (hg : GlobOk T r) (hm : MemRel r m.next m.get w) (ha : VsRel r args args'.toList)
    (hrec : ∀ (c₀ : Frame) (cs : List Frame), c₀.mode = u → RecSt r (some rv) (c₀ :: cs) ({ c₀ with mode := u1 } :: cs)) (h : evClos T callF fuel gn rv args m = some m1) :
    CallsD P g args' u w fun e u' w' => ∃ v r', e = .returned v ∧ u' = u1 ∧ GlobOk T r' ∧ Step r m.next m.get w r' m1.next m1.get w' := by
  unfold evClos at h
  split at h
  · rename_i id ops c hb
    split at h
    · rename_i hle
      have hn := Nat.le_of_ble_eq_true hle
      have ht := argTree_rel (n := gn.ntmps) ha hn
      split at h
      · rename_i t m0 hev
        refine callsD_of_wpS hf hb fun c₀ cs hu => ?_
        refine wpS_seq (wpS_region ?_)
        rw [List.range_eq_range', show ops.size = ops.toList.length from Array.length_toList.symm]
        refine evRec_ok hT hcall ops.toList 0 rfl hg ht hm (hrec c₀ cs hu) hev fun r' a' w' p q s => ?_
        refine wpS_of_wp (evCode_ok (fuel := fuel) hreg c r' t a' m0 w' _ (Keep.avoids_none c) q p s.mem ?_)
        have fin : ∀ (t2 : Tree AVal) (vs : List AVal), resultsOf T t2 m1 gn.results.toList = some vs → ∀ r2 a2 w2, TRel Keep.none r2 t2 gn.ntmps a2 → GlobOk T r2 → Step r' m0.next m0.get w' r2 m1.next m1.get w2 →
            a2.defers = [] ∧ ∃ u', ({ c₀ with mode := u1 } :: cs : List Frame) = { c₀ with mode := u' } :: cs ∧ ∃ v, (results gn a2.tmps).run P w2 = .ok v w2 ∧
              (∃ v' r'', Ending.returned v = .returned v' ∧ u' = u1 ∧ GlobOk T r'' ∧ Step r m.next m.get w r'' m1.next m1.get w2) := by
          intro t2 vs hr r2 a2 w2 p2 q2 s2
          obtain ⟨v, e, _⟩ := results_ok (P := P) hT q2 p2 s2.mem hr
          exact ⟨p2.calm.1, u1, rfl, v, e, v, r2, rfl, rfl, q2, s.trans s2⟩
        split at h
        · rename_i t2 m2 hc
          split at h
          · rename_i vs hr
            cases h
            rw [hc]
            exact fin t2 vs hr
          · cases h
        · rename_i t2 m2 hc
          split at h
          · rename_i vs hr
            cases h
            rw [hc]
            exact fin t2 vs hr
          · cases h
        · cases h
      · cases h
    · cases h
  · cases h

include hT in
theorem evDef_ok {callF : FuncId → List AVal → AMem → Out AVal} (hcall : ∀ f, CallOk T P f (callF f)) {fuel : Nat} {f : FuncId} {fn : Func} (hreg : ∀ D n, RegionOk D T P callF n) (hf : T.fn f = some fn) :
    CallOk T P f (evDef T callF fuel fn) := by
  intro r w m args args' hg hm ha hgood
  obtain ⟨hf1, hf2⟩ := hT.fn f fn hf
  unfold evDef at hgood ⊢
  split at hgood
  · rename_i x id ops c hb
    refine .inr ⟨?_, ?_⟩
    · have hbn : ¬ fn.body = none := by intro e; rw [e] at hb; cases hb
      have h2' : ¬ fn.name = "runtime.NumGoroutine" := by simpa using hf2
      simp [callFunc, hf1, h2', hbn]
    · split at hgood
      · rename_i hle
        have hn := Nat.le_of_ble_eq_true hle
        have ht := argTree_rel (n := fn.ntmps) ha hn
        split at hgood
        · rename_i t0 m0 hx0
          split at hgood
          · rename_i t1 m1 g dargs hhead
            split at hgood
            · rename_i hfree
              split at hgood
              · rename_i gn hgn
                obtain ⟨hg1, hg2⟩ := hT.fn g gn hgn
                refine calls_of_wp_defers hf1 hb (wp_seq (evCode_ok (fuel := fuel) (hreg Keep.none fn.ntmps) x r (argTree args) _ m w _ (Keep.avoids_none x) hg ht hm ?_))
                rw [hx0]
                intro r0 a0 w0 ht0 hg0 hst0
                refine wp_seq (wp_region ?_)
                rw [List.range_eq_range', show ops.size = ops.toList.length from Array.length_toList.symm]
                refine evHead_ok hT hcall ops.toList 0 rfl hg0 ht0 hst0.mem hhead fun k1 r1 a1 w1 fv cap dargs0 dargs' _ hda hinv ht1 hg1' hst1 => ?_
                simp only [List.length_nil, List.range'_zero, wpOps]
                -- the rest runs with the call deferred
                let D : Keep := ⟨[⟨.fn fv cap, dargs0⟩], fun u => if u ∈ pinsOf fn.results.toList then some (a1.tmps.getD u undef) else none⟩
                have htD : TRel D r1 t1 fn.ntmps a1 := ⟨ht1.size, ht1.at_, ht1.calm.1, fun u v e => by
                  simp only [D] at e
                  split at e
                  · cases e; rfl
                  · cases e⟩
                have hav : D.avoids c := codeFree_avoids (S := pinsOf fn.results.toList) (fun u hu => by simp only [D]; rw [if_neg hu]) hfree
                show c.wp P _ a1 w1
                refine evCode_ok (fuel := fuel) (hreg D fn.ntmps) c r1 t1 a1 m1 w1 _ hav hg1' htD hst1.mem ?_
                have enter : ∀ w, (invoke (.fn fv cap) dargs0).run P w = .ok (.enter g dargs') w := by
                  intro w
                  rw [hinv]
                  have hbody : ∀ {rv : AVal} {m2 m3 : AMem}, evClos T callF fuel gn rv dargs m2 = some m3 → ¬ gn.body = none := by
                    intro rv m2 m3 h e
                    unfold evClos at h
                    rw [e] at h
                    cases h
                  have hbn : ¬ gn.body = none := by
                    split at hgood
                    · cases hx : evClos T callF fuel gn .niface dargs _ with
                      | some m3 => exact hbody hx
                      | none => rw [hx] at hgood; exact hgood.elim
                    · cases hx : evClos T callF fuel gn .niface dargs _ with
                      | some m3 => exact hbody hx
                      | none => rw [hx] at hgood; exact hgood.elim
                    · cases hx : evClos T callF fuel gn _ dargs _ with
                      | some m3 => exact hbody hx
                      | none => rw [hx] at hgood; exact hgood.elim
                    · exact hgood.elim
                    · exact hgood.elim
                  have h2' : ¬ gn.name = "runtime.NumGoroutine" := by simpa using hg2
                  simp [callFunc, hg1, h2', hbn]
                have fin : ∀ (rv : AVal) (t2 : Tree AVal) (m2 : AMem) (u : FrameMode) (u1 : FrameMode) (r2 : Ren) (a2 : Act) (w2 : World) (out : Out AVal), out = evFin T fn t2 (evClos T callF fuel gn rv dargs m2) → out.good →
                    u ≠ .run → settle u1 = .returning → (∀ (c₀ : Frame) (cs : List Frame), c₀.mode = u → RecSt r2 (some rv) (c₀ :: cs) ({ c₀ with mode := u1 } :: cs)) → a2.defers = [⟨.fn fv cap, dargs0⟩] →
                    (∀ i v, t2.get i = some v → VRel r2 v (a2.tmps.getD i undef)) → GlobOk T r2 → Step r1 m1.next m1.get w1 r2 m2.next m2.get w2 →
                    Leaves P fn a2.tmps (Post r m w out) a2.defers u w2 := by
                  intro rv t2 m2 u u1 r2 a2 w2 out hout hgo hu hset hrec hdef htm hg2' s2
                  rw [hdef]
                  refine leaves_cons hu (enter w2) ?_
                  cases hx : evClos T callF fuel gn rv dargs m2 with
                  | none => rw [hx] at hout; subst hout; exact hgo.elim
                  | some m3 =>
                    rw [hx] at hout
                    refine (evClos_ok hT hcall (fuel := fuel) (hreg _ _) hg1 hg2' s2.mem (hda.mono s2.le) hrec hx).mono ?_
                    rintro e u' w3 ⟨v, r3, rfl, rfl, hg3, s3⟩
                    simp only [hset]
                    simp only [evFin] at hout
                    cases hr : resultsOf T t2 m3 fn.results.toList with
                    | none => rw [hr] at hout; subst hout; exact hgo.elim
                    | some vs =>
                      rw [hr] at hout
                      subst hout
                      have ht3 : TRel ⟨a2.defers, fun _ => none⟩ r3 t2 a2.tmps.size a2 := ⟨rfl, fun i v e => (htm i v e).mono s3.le, rfl, fun _ _ e => by cases e⟩
                      obtain ⟨v, e, hv⟩ := results_ok (P := P) hT hg3 ht3 s3.mem hr
                      exact ⟨v, e, r3, v, rfl, hv, hst0.trans ((hst1.trans s2).trans s3)⟩
                have noRec : ∀ (r2 : Ren) (c₀ : Frame) (cs : List Frame), c₀.mode = .returning → RecSt r2 (some .niface) (c₀ :: cs) ({ c₀ with mode := .returning } :: cs) := by
                  intro r2 c₀ cs hc
                  refine .inr ⟨by simp [recoverD, hc], rfl, ?_⟩
                  cases c₀
                  simp only at hc
                  subst hc
                  rfl
                cases hx : evCode T callF fuel fn.ntmps c t1 m1 with
                | ok z m2 =>
                  obtain ⟨e, t2⟩ := z
                  rw [hx] at hgood
                  cases e with
                  | normal => exact fun r2 a2 w2 p q s => fin .niface t2 m2 .returning .returning r2 a2 w2 _ rfl hgood (by simp) rfl (noRec r2) p.calm.1 p.at_ q s
                  | ret => exact fun r2 a2 w2 p q s => fin .niface t2 m2 .returning .returning r2 a2 w2 _ rfl hgood (by simp) rfl (noRec r2) p.calm.1 p.at_ q s
                  | exit id => exact hgood.elim
                  | goto l => exact hgood.elim
                | pan v m2 =>
                  rw [hx] at hgood
                  intro r2 a2 v' w2 hcalm hv s
                  refine fin v (pinTree t1 (pinsOf fn.results.toList)) m2 (.panicking [{ v := v', recovered := false }]) (.panicking [{ v := v', recovered := true }]) r2 a2 w2 _ rfl hgood (by simp) (by simp [settle]) (fun c₀ cs hc => .inl ⟨v', by simp [recoverD, hc], hv⟩) hcalm.1
                    (fun i x e => ?_) (hg1'.mono s.le) s
                  obtain ⟨hi, e⟩ := pinTree_get e
                  rw [hcalm.2 i (a1.tmps.getD i undef) (by simp only [D]; rw [if_pos hi])]
                  exact (ht1.at_ i x e).mono s.le
                | fail why => rw [hx] at hgood; exact hgood.elim
              · exact hgood.elim
            · exact hgood.elim
          · exact hgood.elim
        · exact hgood.elim
        · exact hgood.elim
      · exact hgood.elim
  · exact hgood.elim
end
end
end Ev
end Go.Proofs.YtjmapihogpdocaaGreatDoor
