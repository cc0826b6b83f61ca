/-
  The evaluator's code and functions against the machine's. (Conditions: the tables tell of the program what is so; the functions that are given by a specification do what it says.)
-/
import Derived.Test.YtfddpaljmihinaaGreatDoorEvRun
namespace Go.Proofs.YtfddpaljmihinaaGreatDoor
namespace Ev
open Go
variable {D : Keep}

def Ex.toExit : Ex → Exit
  | .normal => .normal
  | .exit id => .exit id
  | .goto l => .goto l
  | .ret => .ret

/-- What code comes to. -/
def CodeSat (D : Keep) (T : Tab) (n : Nat) (r : Ren) (m : AMem) (w : World) (out : Out (Ex × Tree AVal)) (Q : Exit → Act → World → Prop) : Prop :=
  match out with
  | .ok (e, t) m' => ∀ r' a' w', TRel D r' t n a' → GlobOk T r' → Step r m.next m.get w r' m'.next m'.get w' → Q e.toExit a' w'
  | .pan v m' => ∀ r' a' v' w', D.calm a' → VRel r' v v' → Step r m.next m.get w r' m'.next m'.get w' → Q (.panic [{ v := v', recovered := false }]) a' w'
  | .fail _ => False

section
variable {T : Tab} {P : Program} (hT : TabOk T P)

theorem CodeSat.trans {n : Nat} {r r1 : Ren} {m m1 : AMem} {w w1 : World} {out : Out (Ex × Tree AVal)} {Q : Exit → Act → World → Prop} (h : Step r m.next m.get w r1 m1.next m1.get w1) (k : CodeSat D T n r m w out Q) : CodeSat D T n r1 m1 w1 out Q := by
  cases out with
  | ok t m' => exact fun r' a' w' a b c => k r' a' w' a b (h.trans c)
  | pan v m' => exact fun r' a' v' w' a b c => k r' a' v' w' a b (h.trans c)
  | fail why => exact k

/-- A region, drawn or not. -/
def RegionOk (D : Keep) (T : Tab) (P : Program) (callF : FuncId → List AVal → AMem → Out AVal) (n : Nat) : Prop :=
  ∀ (id : Nat) (ops : Array Oper) (draw : Bool) (Q : Exit → Act → World → Prop) (r : Ren) (t : Tree AVal) (a : Act) (m : AMem) (w : World), D.frees ops → GlobOk T r → TRel D r t n a → MemRel r m.next m.get w →
    OpsSat D T n r m w (evRegion T callF n ops draw t m) Q → (Code.region id ops draw).wp P Q a w

theorem iter_ok {n : Nat} {c : Code} {body : Tree AVal → AMem → Out (Ex × Tree AVal)} {Q : Exit → Act → World → Prop}
    (hb : ∀ (r : Ren) (t : Tree AVal) (a : Act) (m : AMem) (w : World) (Q : Exit → Act → World → Prop), GlobOk T r → TRel D r t n a → MemRel r m.next m.get w → CodeSat D T n r m w (body t m) Q → c.wp P Q a w) :
    ∀ (k : Nat) (r : Ren) (t : Tree AVal) (a : Act) (m : AMem) (w : World), GlobOk T r → TRel D r t n a → MemRel r m.next m.get w → CodeSat D T n r m w (iter body k t m) Q → Code.rounds P c Q k a w := by
  intro k
  induction k with
  | zero => intro r t a m w _ _ _ h; exact h.elim
  | succ k ih =>
    intro r t a m w hg ht hm h
    rw [rounds_succ]
    refine hb r t a m w _ hg ht hm ?_
    simp only [iter] at h
    cases hbo : body t m with
    | ok x m' =>
      obtain ⟨e, t'⟩ := x
      rw [hbo] at h
      cases e with
      | normal => exact fun r' a' w' p q s => ih r' t' a' m' w' q p s.mem (h.trans s)
      | exit id => exact fun r' a' w' p q s => h r' a' w' p q s
      | goto l => exact fun r' a' w' p q s => h r' a' w' p q s
      | ret => exact fun r' a' w' p q s => h r' a' w' p q s
    | pan v m' => rw [hbo] at h; exact fun r' a' v' w' p q s => h r' a' v' w' p q s
    | fail why => rw [hbo] at h; exact h

/-- Code that writes no temporary that is to be left. -/
def Keep.avoids (D : Keep) : Code → Prop
  | .region _ ops _ => D.frees ops
  | .seq a b => D.avoids a ∧ D.avoids b
  | .cond _ a b => D.avoids a ∧ D.avoids b
  | .block _ a => D.avoids a
  | .loop a => D.avoids a
  | _ => True
theorem Keep.avoids_none : ∀ c : Code, Keep.none.avoids c := by
  intro c
  induction c with
  | region id ops draw => exact Keep.frees_none ops
  | seq a b iha ihb => exact ⟨iha, ihb⟩
  | cond c a b iha ihb => exact ⟨iha, ihb⟩
  | block id a iha => exact iha
  | loop a iha => exact iha
  | _ => trivial

theorem evCode_ok {callF : FuncId → List AVal → AMem → Out AVal} {fuel n : Nat} (hreg : RegionOk D T P callF n) :
    ∀ (c : Code) (r : Ren) (t : Tree AVal) (a : Act) (m : AMem) (w : World) (Q : Exit → Act → World → Prop), D.avoids c → GlobOk T r → TRel D r t n a → MemRel r m.next m.get w →
      CodeSat D T n r m w (evCode T callF fuel n c t m) Q → c.wp P Q a w := by
  intro c
  induction c with
  | skip =>
    intro r t a m w Q hv hg ht hm h
    exact wp_skip (h r a w ht hg (.refl hm))
  | region id ops draw =>
    intro r t a m w Q hv hg ht hm h
    refine hreg id ops draw Q r t a m w hv hg ht hm ?_
    simp only [evCode] at h
    cases hx : evRegion T callF n ops draw t m with
    | ok t' m' => rw [hx] at h; exact h
    | pan v m' => rw [hx] at h; exact h
    | fail why => rw [hx] at h; exact h
  | seq x y ihx ihy =>
    intro r t a m w Q hv hg ht hm h
    refine wp_seq (ihx r t a m w _ hv.1 hg ht hm ?_)
    simp only [evCode] at h
    cases hx : evCode T callF fuel n x t m with
    | ok z m' =>
      obtain ⟨e, t'⟩ := z
      rw [hx] at h
      cases e with
      | normal => exact fun r' a' w' p q s => ihy r' t' a' m' w' Q hv.2 q p s.mem (h.trans s)
      | exit id => exact fun r' a' w' p q s => h r' a' w' p q s
      | goto l => exact fun r' a' w' p q s => h r' a' w' p q s
      | ret => exact fun r' a' w' p q s => h r' a' w' p q s
    | pan v m' => rw [hx] at h; exact fun r' a' v' w' p q s => h r' a' v' w' p q s
    | fail why => rw [hx] at h; exact h
  | cond c x y ihx ihy =>
    intro r t a m w Q hv hg ht hm h
    simp only [evCode] at h
    have hc := ev_rel (T := T) hg ht c
    split at h
    · rename_i hb
      rw [hb] at hc
      exact wp_cond_true hc.bool_inv (ihx r t a m w Q hv.1 hg ht hm h)
    · rename_i hb
      rw [hb] at hc
      exact wp_cond_false hc.bool_inv (ihy r t a m w Q hv.2 hg ht hm h)
    · exact h.elim
  | block id c ih =>
    intro r t a m w Q hv hg ht hm h
    refine wp_block (ih r t a m w _ hv hg ht hm ?_)
    simp only [evCode] at h
    cases hx : evCode T callF fuel n c t m with
    | ok z m' =>
      obtain ⟨e, t'⟩ := z
      rw [hx] at h
      cases e with
      | normal => exact fun r' a' w' p q s => h r' a' w' p q s
      | exit id' =>
        simp only at h
        intro r' a' w' p q s
        show Exit.inBlock id Q (.exit id') a' w'
        simp only [Exit.inBlock]
        by_cases c : id' = id
        · rw [if_pos c] at h ⊢; exact h r' a' w' p q s
        · rw [if_neg c] at h ⊢; exact h r' a' w' p q s
      | goto l => exact fun r' a' w' p q s => h r' a' w' p q s
      | ret => exact fun r' a' w' p q s => h r' a' w' p q s
    | pan v m' => rw [hx] at h; exact fun r' a' v' w' p q s => h r' a' v' w' p q s
    | fail why => rw [hx] at h; exact h
  | loop c ih =>
    intro r t a m w Q hv hg ht hm h
    simp only [evCode] at h
    exact wp_loop_rounds fuel (iter_ok (fun r t a m w Q => ih r t a m w Q hv) fuel r t a m w hg ht hm h)
  | exit id =>
    intro r t a m w Q hv hg ht hm h
    exact wp_exit (h r a w ht hg (.refl hm))
  | ret =>
    intro r t a m w Q hv hg ht hm h
    exact wp_ret (h r a w ht hg (.refl hm))
  | rangeFunc f params assign body _ _ => intro r t a m w Q hv hg ht hm h; exact h.elim
  | scope body _ => intro r t a m w Q hv hg ht hm h; exact h.elim
  | label l => intro r t a m w Q hv hg ht hm h; exact h.elim
  | goto l => intro r t a m w Q hv hg ht hm h; exact h.elim
  | refuse why => intro r t a m w Q hv hg ht hm h; exact h.elim

/-! ### Results -/
include hT in
theorem resultsOf_ok {r : Ren} {t : Tree AVal} {n : Nat} {a : Act} {m : AMem} {w : World} (hg : GlobOk T r) (ht : TRel D r t n a) (hm : MemRel r m.next m.get w)
    (F : ResultVar → Sem Value) (hF1 : ∀ i, F (.tmp i) = pure (a.tmps.getD i undef)) (hF2 : ∀ b u, F (.cell b u) = (do loadVar u (← asAddr (a.tmps.getD b undef)))) :
    ∀ {rs : List ResultVar} {vs : List AVal}, resultsOf T t m rs = some vs → ∃ vs' : List Value, (rs.mapM F).run P w = .ok vs' w ∧ VsRel r vs vs' := by
  intro rs
  induction rs with
  | nil => intro vs h; cases h; exact ⟨[], rfl, .nil r⟩
  | cons x rs ih =>
    intro vs h
    cases x with
    | tmp i =>
      simp only [resultsOf] at h
      split at h
      · rename_i us hu
        cases h
        obtain ⟨vs', e, hv⟩ := ih hu
        refine ⟨a.tmps.getD i undef :: vs', ?_, .cons (ev_rel hg ht (.tmp i)) hv⟩
        simp only [List.mapM_cons, Sem.run_bind, hF1, Sem.run_pure, Result.andThen_ok, e]
      · cases h
    | cell b u =>
      simp only [resultsOf] at h
      split at h
      · rename_i v us hl hu
        cases h
        obtain ⟨vs', e, hv⟩ := ih hu
        have hb := ev_rel (T := T) hg ht (.tmp b)
        obtain ⟨v', e1, hv1⟩ := loadOp_ok hT hm hb hl
        refine ⟨v' :: vs', ?_, .cons hv1 hv⟩
        have e2 : (F (.cell b u)).run P w = .ok v' w := by
          have hp : ∃ bb o, ev T t (.tmp b) = .ptr bb o := by
            unfold loadOp at hl
            split at hl
            · exact ⟨_, _, by assumption⟩
            · cases hl
          obtain ⟨bb, o, hpo⟩ := hp
          rw [hpo] at hb
          obtain ⟨B, hB, hae⟩ := hb.ptr_inv
          have hae' : a.tmps.getD b undef = .pointer (some ⟨B.cb, B.base + o, none⟩) := hae
          rw [hF2, hae']
          have : a.eval (.tmp b) = .pointer (some ⟨B.cb, B.base + o, none⟩) := hae
          rw [this] at e1
          simpa [Instr.loadAt, Instr.sureAddr, asAddr] using e1
        simp only [List.mapM_cons, Sem.run_bind, e2, Sem.run_pure, Result.andThen_ok, e]
      · cases h

theorem argTree_rel {r : Ren} {args : List AVal} {args' : Array Value} {n : Nat} (h : VsRel r args args'.toList) (hn : args.length ≤ n) :
    TRel Keep.none r (argTree args) n { tmps := args' ++ Array.replicate (n - args'.size) undef, defers := [] } := by
  have hl : args'.size = args.length := by have := h.len; simpa using this
  refine ⟨by simp; omega, fun i v e => ?_, Keep.calm_none rfl⟩
  simp only [argTree, Tree.get_ofList] at e
  obtain ⟨v', e1, hv⟩ := h.get e
  have hi : i < args'.size := by
    rw [hl]
    rcases Nat.lt_or_ge i args.length with c | c
    · exact c
    · rw [List.getElem?_eq_none c] at e; cases e
  rw [Array.getElem?_toList] at e1
  rw [Array.getD_eq_getD_getElem?, Array.getElem?_append_left hi, e1]
  exact hv

include hT in
theorem evBody_ok {callF : FuncId → List AVal → AMem → Out AVal} {fuel : Nat} {f : FuncId} {fn : Func} (hreg : RegionOk Keep.none T P callF fn.ntmps) (hf : P.funcs[f]? = some fn)
    {r : Ren} {w : World} {m : AMem} {args : List AVal} {args' : Array Value} (hg : GlobOk T r) (hm : MemRel r m.next m.get w) (ha : VsRel r args args'.toList)
    (hgood : (evBody T callF fuel fn args m).good) : fn.body.isSome = true ∧ Calls P f args' w (Post r m w (evBody T callF fuel fn args m)) := by
  unfold evBody at hgood ⊢
  cases hb : fn.body with
  | none => rw [hb] at hgood; exact hgood.elim
  | some c =>
    rw [hb] at hgood
    refine ⟨rfl, ?_⟩
    simp only at hgood ⊢
    cases hle : Nat.ble args.length fn.ntmps with
    | false => rw [hle] at hgood; exact hgood.elim
    | true =>
      rw [hle] at hgood
      simp only at hgood ⊢
      have hn := Nat.le_of_ble_eq_true hle
      have ht := argTree_rel (n := fn.ntmps) ha hn
      refine calls_of_wp hf hb (evCode_ok (fuel := fuel) hreg c r (argTree args) _ m w _ (Keep.avoids_none c) hg ht hm ?_)
      have fin : ∀ (t : Tree AVal) (m' : AMem) (out : Out AVal), out = (match resultsOf T t m' fn.results.toList with | some vs => Out.ok (oneResult vs) m' | none => .fail "results") → out.good →
          ∀ r' a' w', TRel Keep.none r' t fn.ntmps a' → GlobOk T r' → Step r m.next m.get w r' m'.next m'.get w' →
            a'.defers = [] ∧ ∃ v, (results fn a'.tmps).run P w' = .ok v w' ∧ Post r m w out (.returned v) w' := by
        intro t m' out hout hgo r' a' w' p q s
        refine ⟨p.calm.1, ?_⟩
        cases hr : resultsOf T t m' fn.results.toList with
        | none => rw [hr] at hout; rw [hout] at hgo; exact hgo.elim
        | some vs =>
          rw [hr] at hout
          obtain ⟨F, eF, f1, f2⟩ : ∃ F : ResultVar → Sem Value, results fn a'.tmps = (do let vs ← fn.results.mapM F; pure (if h : vs.size = 1 then vs[0] else .tuple vs)) ∧
              (∀ i, F (.tmp i) = pure (a'.tmps.getD i undef)) ∧ (∀ b u, F (.cell b u) = (do loadVar u (← asAddr (a'.tmps.getD b undef)))) := ⟨_, rfl, fun _ => rfl, fun _ _ => rfl⟩
          obtain ⟨vs', e, hv⟩ := resultsOf_ok (P := P) hT q p s.mem F f1 f2 hr
          have hlen := hv.len
          refine ⟨if h : vs'.toArray.size = 1 then vs'.toArray[0] else .tuple vs'.toArray, ?_, ?_⟩
          · rw [eF, Array.mapM_eq_mapM_toList]
            simp only [Sem.run_bind, Sem.run_map, e, Result.andThen_ok, Sem.run_pure]
          · rw [hout]
            refine ⟨r', _, rfl, ?_, s⟩
            cases vs with
            | nil =>
              have := hv.nil_inv
              subst this
              exact .tupleOf (.nil r')
            | cons v vs =>
              cases vs with
              | nil =>
                obtain ⟨v', t', e1, e2, e3⟩ := hv.cons_inv
                have := e3.nil_inv
                subst this
                subst e1
                exact e2
              | cons u us =>
                have hne : ¬ vs'.toArray.size = 1 := by simp; simp at hlen; omega
                rw [dif_neg hne]
                exact .tupleOf hv
      cases hx : evCode T callF fuel fn.ntmps c (argTree args) m with
      | ok z m' =>
        obtain ⟨e, t⟩ := z
        rw [hx] at hgood
        cases e with
        | normal => exact fin t m' _ rfl hgood
        | ret => exact fin t m' _ rfl hgood
        | exit id => exact hgood.elim
        | goto l => exact hgood.elim
      | pan v m' =>
        intro r' a' v' w' p q s
        exact ⟨p.1, r', v', rfl, q, s⟩
      | fail why => rw [hx] at hgood; exact hgood.elim

include hT in
/-- THE EVALUATOR IS SOUND: whatever function it is asked for. -/
theorem evFn_ok (hspec : ∀ f F, T.spec f = some F → CallOk T P f F)
    (hreg : ∀ (callF : FuncId → List AVal → AMem → Out AVal), (∀ f, CallOk T P f (callF f)) → ∀ n, RegionOk Keep.none T P callF n) : ∀ (k : Nat) (f : FuncId), CallOk T P f (evFn T k f) := by
  intro k
  induction k with
  | zero => intro f r w m args args' hg hm ha hgood; exact hgood.elim
  | succ k ih =>
    intro f r w m args args' hg hm ha hgood
    simp only [evFn] at hgood ⊢
    cases hs : T.spec f with
    | some F =>
      rw [hs] at hgood
      exact hspec f F hs r w m args args' hg hm ha hgood
    | none =>
      rw [hs] at hgood
      simp only at hgood ⊢
      cases hf : T.fn f with
      | none => rw [hf] at hgood; exact hgood.elim
      | some fn =>
        rw [hf] at hgood
        simp only at hgood ⊢
        obtain ⟨h1, h2⟩ := hT.fn f fn hf
        obtain ⟨b1, b2⟩ := evBody_ok hT (hreg _ ih fn.ntmps) h1 hg hm ha hgood
        refine .inr ⟨?_, b2⟩
        have hbn : ¬ fn.body = none := by intro e; rw [e] at b1; cases b1
        have h2' : ¬ fn.name = "runtime.NumGoroutine" := by simpa using h2
        simp [callFunc, h1, h2', hbn]
end
end Ev
end Go.Proofs.YtfddpaljmihinaaGreatDoor
