/-
  Regions that draw their order: the walk over whatever order is drawn. (Conditions: the tables tell of the program what is so; the callees do what they are said to do; the program mixes its orders.)
-/
import Derived.Test.YtfddpaljmihinaaGreatDoorEvDraw3
namespace Go.Proofs.YtfddpaljmihinaaGreatDoor
namespace Ev
open Go
variable {D : Keep}

theorem mix_all (t t0 : Tree AVal) : ∀ L : List Nat, ∃ t' : Tree AVal, ∀ u, t'.get u = if u ∈ L then t0.get u else t.get u
  | [] => ⟨t, fun u => by simp⟩
  | x :: L => by
    obtain ⟨t', h⟩ := mix_all t t0 L
    refine ⟨t'.set x (t0.get x), fun u => ?_⟩
    rw [Tree.get_set]
    by_cases e : x = u
    · subst e; simp
    · rw [if_neg e, h u]
      have : ¬ u = x := fun c => e c.symm
      simp [this]

/-- Where a drawn order stands: the operations of S are done. -/
structure Sch (D : Keep) (T : Tab) (n : Nat) (ops : Array Oper) (pre : Tree Nat) (t0 : Tree AVal) (base : Nat) (ds : DS) (r0 : Ren) (g0 : Nat → Option ABlk) (w0 : World)
    (S : Nat → Bool) (k : Nat) (s : Stage) (r : Ren) (a : Act) (w : World) : Prop where
  closed : ∀ i o p, ops[i]? = some o → S i = true → pre.get i = some p → ∀ b, p.testBit b = true → S b = true
  stage : stageOf ds.stages k = some s
  wm : ∀ b, s.wm.testBit b = true → S b = true
  wmE : ∀ b, S b = true → ds.st.wm.testBit b = true → s.wm.testBit b = true
  abs : ∀ b, s.abs.testBit b = true → S b = true
  pan : ∀ x, ds.pan = some x → S x.1 = false
  names : ∀ q, q < ops.size → S q = false → r.at_ (base + q) = none
  clear : ∀ q b, sideOf ds.made q = some b → s.abs.testBit q = false → s.m.get (base + q) = none
  big : base + ops.size ≤ s.m.next
  glob : GlobOk T r
  size : a.tmps.size = n
  calm : D.calm a
  free : D.frees ops
  tmps : ∀ u v, ds.t.get u = some v → (∀ j o, ops[j]? = some o → o.dst = some u → S j = true) → VRel r v (a.tmps.getD u undef)
  old : ∀ u v, t0.get u = some v → ∀ j o, ops[j]? = some o → o.dst = some u → S j = false → VRel r v (a.tmps.getD u undef)
  step : Step r0 base g0 w0 r s.m.next (view base s.m (fun q => S q && !s.abs.testBit q) ds.made).get w

def with_ (S : Nat → Bool) (i : Nat) : Nat → Bool := fun q => if q = i then true else S q
theorem with_self (S : Nat → Bool) (i : Nat) : with_ S i i = true := by simp [with_]
theorem with_old {S : Nat → Bool} {i q : Nat} (h : S q = true) : with_ S i q = true := by simp [with_, h]
theorem with_ne {S : Nat → Bool} {i q : Nat} (h : q ≠ i) : with_ S i q = S q := by simp [with_, h]
theorem with_false {S : Nat → Bool} {i q : Nat} (h : with_ S i q = false) : q ≠ i ∧ S q = false := by
  by_cases e : q = i
  · subst e; rw [with_self] at h; cases h
  · rw [with_ne e] at h; exact ⟨e, h⟩
theorem with_true {S : Nat → Bool} {i q : Nat} (h : with_ S i q = true) : q = i ∨ S q = true := by
  by_cases e : q = i
  · exact .inl e
  · rw [with_ne e] at h; exact .inr h

section
variable {T : Tab} {P : Program} {callF : FuncId → List AVal → AMem → Out AVal} {n : Nat} {ops : Array Oper} {base : Nat} {pre who : Tree Nat} {s0 : Stage} {t0 : Tree AVal} {ds : DS}
  {r0 : Ren} {g0 : Nat → Option ABlk} {w0 : World} {S : Nat → Bool} {k : Nat} {s : Stage} {r : Ren} {a : Act} {w : World}

theorem Sch.tree (hS : Stat ops pre who) (hold : ∀ u, (∀ (j : Nat) (o : Oper), ops[j]? = some o → o.dst ≠ some u) → ds.t.get u = t0.get u) (h : Sch D T n ops pre t0 base ds r0 g0 w0 S k s r a w)
    {i : Nat} {o : Oper} {p : Nat} {t : Tree AVal} (hSi : S i = false) (hsee : Sees ops pre i o p) (hm : Match ops o p t0 t ds.t) (hp : ∀ b, p.testBit b = true → S b = true) :
    ∃ t', TRel D r t' n a ∧ Looks ops o t t' := by
  have uniq : ∀ (u j : Nat) (oj : Oper) (j' : Nat) (oj' : Oper), ops[j]? = some oj → oj.dst = some u → ops[j']? = some oj' → oj'.dst = some u → j' = j := by
    intro u j oj j' oj' hj hd hj' hd'
    have e1 := hS.who j oj u hj hd
    have e2 := hS.who j' oj' u hj' hd'
    rw [e1] at e2
    cases e2
    rfl
  obtain ⟨t', ht⟩ := mix_all ds.t t0 ((List.range ops.size).filterMap fun j => if S j then none else (ops[j]?).bind (·.dst))
  have mem : ∀ u, u ∈ ((List.range ops.size).filterMap fun j => if S j then none else (ops[j]?).bind (·.dst)) ↔ ∃ j o, S j = false ∧ ops[j]? = some o ∧ o.dst = some u := by
    intro u
    rw [List.mem_filterMap]
    constructor
    · rintro ⟨j, _, hj⟩
      cases hs : S j with
      | true => simp [hs] at hj
      | false =>
        simp only [hs, Bool.false_eq_true, if_false] at hj
        cases ho : ops[j]? with
        | none => simp [ho] at hj
        | some o => exact ⟨j, o, hs, ho, by simpa [ho] using hj⟩
    · rintro ⟨j, o, hs, ho, hd⟩
      exact ⟨j, List.mem_range.2 (Array.getElem?_eq_some_iff.1 ho).1, by simp [hs, ho, hd]⟩
  refine ⟨t', ⟨h.size, fun u v e => ?_, h.calm⟩, fun u hu => ?_⟩
  · rw [ht] at e
    split at e
    · rename_i hn
      obtain ⟨j, oj, hs, ho, hd⟩ := (mem u).1 hn
      exact h.old u v e j oj ho hd hs
    · rename_i hn
      refine h.tmps u v e fun j o ho hd => ?_
      cases hs : S j with
      | true => rfl
      | false => exact absurd ((mem u).2 ⟨j, o, hs, ho, hd⟩) hn
  · rw [ht]
    split
    · rename_i hn
      obtain ⟨j, oj, hs, ho, hd⟩ := (mem u).1 hn
      refine ((hm u hu).2 fun j' oj' ho' hd' => ?_).symm
      have := uniq u j oj j' oj' ho hd ho' hd'
      subst this
      cases hb : Nat.testBit p j' with
      | false => rfl
      | true => rw [hp j' hb] at hs; cases hs
    · rename_i hn
      by_cases c : ∃ (j : Nat) (oj : Oper), ops[j]? = some oj ∧ oj.dst = some u
      · obtain ⟨j, oj, ho, hd⟩ := c
        have hSj : S j = true := by
          cases hs : S j with
          | true => rfl
          | false => exact absurd ((mem u).2 ⟨j, oj, hs, ho, hd⟩) hn
        rcases hsee u hu j oj ho hd with hb | ⟨pj, hpj, hb⟩
        · exact ((hm u hu).1 j oj ho hd hb).symm
        · have := h.closed j oj pj ho hSj hpj i hb
          rw [hSi] at this
          cases this
      · rw [hold u fun j oj ho hd => c ⟨j, oj, ho, hd⟩]
        exact ((hm u hu).2 fun j oj ho hd => absurd ⟨j, oj, ho, hd⟩ c).symm

theorem Sch.after (hS : Stat ops pre who) (h : Sch D T n ops pre t0 base ds r0 g0 w0 S k s r a w) {i : Nat} {o : Oper} {p : Nat} (ho : ops[i]? = some o) (hpi : pre.get i = some p) (hp : ∀ b, p.testBit b = true → S b = true)
    {k' : Nat} {s' : Stage} {r' : Ren} {w' : World} {v : AVal} {v' : Value} (hst : stageOf ds.stages k' = some s') (hle : r.le r') (hv : VRel r' v v') (hd : Dst n o ds.t v)
    (hwm : ∀ b, s'.wm.testBit b = true → with_ S i b = true) (hwmE : ∀ b, with_ S i b = true → ds.st.wm.testBit b = true → s'.wm.testBit b = true) (habs : ∀ b, s'.abs.testBit b = true → with_ S i b = true)
    (hpan : ∀ x, ds.pan = some x → x.1 ≠ i) (hnames : ∀ q, q < ops.size → q ≠ i → r.at_ (base + q) = none → r'.at_ (base + q) = none)
    (hclear : ∀ q b, sideOf ds.made q = some b → s'.abs.testBit q = false → s'.m.get (base + q) = none) (hbig : base + ops.size ≤ s'.m.next)
    (hstep : Step r0 base g0 w0 r' s'.m.next (view base s'.m (fun q => with_ S i q && !s'.abs.testBit q) ds.made).get w') :
    Sch D T n ops pre t0 base ds r0 g0 w0 (with_ S i) k' s' r' (a.put o.dst v') w' where
  closed := by
    intro j oj q hoj hj hq b hb
    by_cases e : j = i
    · subst e
      rw [hpi] at hq
      cases hq
      exact with_old (hp b hb)
    · rw [with_ne e] at hj
      exact with_old (h.closed j oj q hoj hj hq b hb)
  stage := hst
  wm := hwm
  wmE := hwmE
  abs := habs
  pan := fun x hx => by rw [with_ne (hpan x hx)]; exact h.pan x hx
  names := fun q hq hs => hnames q hq (with_false hs).1 (h.names q hq (with_false hs).2)
  clear := hclear
  big := hbig
  glob := h.glob.mono hle
  size := by
    have := h.size
    cases o.dst <;> simpa [Act.put] using this
  calm := h.calm.put (fun d e => h.free i o d ho e) v'
  free := h.free
  tmps := by
    intro u x hx hall
    have hs := h.size
    cases hod : o.dst with
    | none =>
      refine (h.tmps u x hx fun j oj hoj hdj => ?_).mono hle
      rcases with_true (hall j oj hoj hdj) with e | e
      · subst e; rw [ho] at hoj; cases hoj; rw [hod] at hdj; cases hdj
      · exact e
    | some d =>
      simp only [Act.put]
      obtain ⟨hdn, hdv⟩ := hd d hod
      by_cases c : d = u
      · subst c
        rw [hdv] at hx
        cases hx
        rw [Array.getD_eq_getD_getElem?, Array.getElem?_setIfInBounds, if_pos rfl, if_pos (by rw [hs]; exact hdn)]
        exact hv
      · rw [Array.getD_eq_getD_getElem?, Array.getElem?_setIfInBounds, if_neg c, ← Array.getD_eq_getD_getElem?]
        refine (h.tmps u x hx fun j oj hoj hdj => ?_).mono hle
        rcases with_true (hall j oj hoj hdj) with e | e
        · subst e; rw [ho] at hoj; cases hoj; rw [hod] at hdj; cases hdj; exact absurd rfl c
        · exact e
  old := by
    intro u x hx j oj hoj hdj hSj
    obtain ⟨hji, hSj⟩ := with_false hSj
    have hold := (h.old u x hx j oj hoj hdj hSj).mono hle
    cases hod : o.dst with
    | none => exact hold
    | some d =>
      have hne : d ≠ u := by
        intro c
        subst c
        have e1 := hS.who i o d ho hod
        have e2 := hS.who j oj d hoj hdj
        rw [e1] at e2
        cases e2
        exact hji rfl
      simp only [Act.put]
      rw [Array.getD_eq_getD_getElem?, Array.getElem?_setIfInBounds, if_neg hne, ← Array.getD_eq_getD_getElem?]
      exact hold
  step := hstep

/-- One that makes no block and writes nothing. -/
theorem Sch.quiet (hS : Stat ops pre who) (h : Sch D T n ops pre t0 base ds r0 g0 w0 S k s r a w) {i : Nat} {o : Oper} {p : Nat} (ho : ops[i]? = some o) (hpi : pre.get i = some p) (hp : ∀ b, p.testBit b = true → S b = true)
    {v : AVal} {v' : Value} (hv : VRel r v v') (hd : Dst n o ds.t v) (hs : sideOf ds.made i = none) (hm : ds.st.wm.testBit i = false) (hx : ∀ x, ds.pan = some x → x.1 ≠ i) :
    Sch D T n ops pre t0 base ds r0 g0 w0 (with_ S i) k s r (a.put o.dst v') w := by
  refine h.after hS ho hpi hp h.stage r.le_refl hv hd (fun b hb => with_old (h.wm b hb)) (fun b hb hE => ?_) (fun b hb => with_old (h.abs b hb)) hx (fun _ _ _ e => e) h.clear h.big ?_
  · rcases with_true hb with e | e
    · subst e; rw [hm] at hE; cases hE
    · exact h.wmE b e hE
  · refine (h.step.trans' (Step.sub h.step.mem fun b k hb => ?_) (by have := h.big; omega))
    rcases view_cases hb with ⟨q, e, hf, hsd⟩ | ⟨hb, hno⟩
    · rw [e]
      refine view_side ?_ hsd
      have : q ≠ i := by intro c; rw [c, hs] at hsd; cases hsd
      rw [with_ne this] at hf
      exact hf
    · rw [view_main fun q e hf => hno q e ?_]
      · exact hb
      · simp only [Bool.and_eq_true] at hf ⊢
        exact ⟨with_old hf.1, hf.2⟩

/-- What an operation that is ready sees of the memory. -/
theorem Sch.sees (h : Sch D T n ops pre t0 base ds r0 g0 w0 S k s r a w) {p : Nat} (hp : ∀ b, p.testBit b = true → S b = true) :
    ∀ b x, (view base s.m (Nat.testBit (diff p s.abs)) ds.made).get b = some x → (view base s.m (fun q => S q && !s.abs.testBit q) ds.made).get b = some x := by
  intro b x hb
  rcases view_cases hb with ⟨q, e, hf, hsd⟩ | ⟨hb, hno⟩
  · rw [e]
    refine view_side ?_ hsd
    rw [diff_testBit, Bool.and_eq_true] at hf
    simp only [Bool.and_eq_true]
    exact ⟨hp q hf.1, hf.2⟩
  · rw [view_main]
    · exact hb
    · intro q e hf
      simp only [Bool.and_eq_true, Bool.not_eq_true'] at hf
      cases hsd : sideOf ds.made q with
      | none => rfl
      | some k' =>
        have := h.clear q k' hsd hf.2
        rw [← e, hb] at this
        cases this

/-- Where an operation that writes stands in the row of stages. -/
theorem Sch.at_stage (hC : Chain ops.size pre s0 ds.stages) (h : Sch D T n ops pre t0 base ds r0 g0 w0 S k s r a w) {k' : Nat} {s' : Stage} (hst : stageOf ds.stages k' = some s')
    (hsub : ∀ b, s'.wm.testBit b = true → S b = true) (hge : ¬ k' < k) : k' = k ∧ s' = s := by
  have hk : k' = k := by
    refine Nat.le_antisymm ?_ (by omega)
    refine Nat.le_of_not_lt fun hlt => ?_
    obtain ⟨s1, e1⟩ : ∃ s1, stageOf ds.stages (k + 1) = some s1 := stageOf_some (by have := stageOf_lt hst; omega)
    obtain ⟨j, p, _, _, _, e2, e3⟩ := hC.next h.stage e1
    have hj : s1.wm.testBit j = true := by rw [e2, lor_testBit, two_testBit]; simp
    have h1 : s'.wm.testBit j = true := by
      have hd : stageOf ds.stages (k + 1 + (k' - (k + 1))) = some s' := by rw [show k + 1 + (k' - (k + 1)) = k' by omega]; exact hst
      exact hC.mono e1 _ hd j hj
    have hE : ds.st.wm.testBit j = true := by
      have hl := stageOf_lt hst
      have hd : stageOf ds.stages (k' + (ds.old.length - k')) = some ds.st := by
        simp only [DS.stages, List.length_cons] at hl
        rw [show k' + (ds.old.length - k') = ds.old.length by omega]
        simp [DS.stages, stageOf]
      exact hC.mono hst _ hd j h1
    rw [h.wmE j (hsub j h1) hE] at e3
    cases e3
  subst hk
  rw [h.stage] at hst
  cases hst
  exact ⟨rfl, rfl⟩
end
end Ev
end Go.Proofs.YtfddpaljmihinaaGreatDoor
