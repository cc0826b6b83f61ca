/-
  Functions that begin with a deferred function literal, which recovers: the evaluator for them, and that it is sound. (Conditions: the tables tell of the program what is so; the callees do what they are said to do.)
-/
import Derived.Test.YtfddpaljmihinaaGreatDoorEvDraw5
import Derived.Recover
namespace Go.Proofs.YtfddpaljmihinaaGreatDoor
namespace Ev
open Go
noncomputable section

def isRecover (o : Op) : Bool :=
  match o with
  | .call c => match c.callee with | .builtin .recover => true | _ => false
  | _ => false

def deferOf (o : Op) : Option Call :=
  match o with
  | .defer c => some c
  | _ => none

/-- The operations up to the deferred call. -/
def evHead (T : Tab) (callF : FuncId → List AVal → AMem → Out AVal) (n : Nat) (all : Array Oper) : List Oper → Tree AVal → AMem → Option (Tree AVal × AMem × FuncId × List AVal × List Oper)
  | [], _, _ => none
  | o :: rest, t, m => match wantedOp all t o with
    | some true => match deferOf o.op with
      | some c => match c.callee with
        | .value f => match ev T t f with
          | .func (.func g) first captured => match putDst n t o.dst (.tuple []) with
            | some t' => some (t', m, g, first ++ evList T t c.args ++ captured, rest)
            | none => none
          | _ => none
        | _ => none
      | none => match evOne T callF t m o.op with
        | .ok v m' => match putDst n t o.dst v with
          | some t' => evHead T callF n all rest t' m'
          | none => none
        | _ => none
    | _ => none

/-- A region of the deferred function, in which it recovers. -/
def evRec (T : Tab) (callF : FuncId → List AVal → AMem → Out AVal) (n : Nat) (all : Array Oper) : List Oper → Option AVal → Tree AVal → AMem → Option (Tree AVal × AMem)
  | [], rv, t, m => match rv with | none => some (t, m) | some _ => none
  | o :: rest, rv, t, m => match wantedOp all t o with
    | none => none
    | some false => match putDst n t o.dst (.tuple []) with
      | some t' => evRec T callF n all rest rv t' m
      | none => none
    | some true => match isRecover o.op with
      | true => match rv with
        | some v => match putDst n t o.dst v with
          | some t' => evRec T callF n all rest none t' m
          | none => none
        | none => none
      | false => match evOne T callF t m o.op with
        | .ok v m' => match putDst n t o.dst v with
          | some t' => evRec T callF n all rest rv t' m'
          | none => none
        | _ => none

def evClos (T : Tab) (callF : FuncId → List AVal → AMem → Out AVal) (fuel : Nat) (fn : Func) (rv : AVal) (args : List AVal) (m : AMem) : Option AMem :=
  match fn.body with
  | some (.seq (.region _ ops false) c) => match Nat.ble args.length fn.ntmps with
    | true => match evRec T callF fn.ntmps ops ops.toList (some rv) (argTree args) m with
      | some (t, m1) => match evCode T callF fuel fn.ntmps c t m1 with
        | .ok (.normal, t2) m2 | .ok (.ret, t2) m2 => match resultsOf T t2 m2 fn.results.toList with
          | some _ => some m2
          | none => none
        | _ => none
      | none => none
    | false => none
  | _ => none

def inList (u : Nat) : List Nat → Bool
  | [] => false
  | x :: r => match Nat.beq u x with | true => true | false => inList u r

def opsFree (S : List Nat) : List Oper → Bool
  | [] => true
  | o :: r => match o.dst with
    | none => opsFree S r
    | some d => match inList d S with | true => false | false => opsFree S r

def codeFree (S : List Nat) : Code → Bool
  | .region _ ops _ => opsFree S ops.toList
  | .seq a b => match codeFree S a with | true => codeFree S b | false => false
  | .cond _ a b => match codeFree S a with | true => codeFree S b | false => false
  | .block _ a => codeFree S a
  | .loop a => codeFree S a
  | _ => true

def pinsOf : List ResultVar → List Nat
  | [] => []
  | .tmp i :: r => i :: pinsOf r
  | .cell b _ :: r => b :: pinsOf r

def pinTree (t : Tree AVal) : List Nat → Tree AVal
  | [] => .leaf
  | u :: r => match t.get u with
    | some v => (pinTree t r).put u v
    | none => pinTree t r

def evFin (T : Tab) (fn : Func) (t : Tree AVal) : Option AMem → Out AVal
  | some m => match resultsOf T t m fn.results.toList with
    | some vs => .ok (oneResult vs) m
    | none => .fail "results"
  | none => .fail "deferred"

def evDef (T : Tab) (callF : FuncId → List AVal → AMem → Out AVal) (fuel : Nat) (fn : Func) (args : List AVal) (m : AMem) : Out AVal :=
  match fn.body with
  | some (.seq x (.seq (.region _ ops false) c)) => match Nat.ble args.length fn.ntmps with
    | true => match evCode T callF fuel fn.ntmps x (argTree args) m with
      | .ok (.normal, t0) m0 => match evHead T callF fn.ntmps ops ops.toList t0 m0 with
        | some (t1, m1, g, dargs, []) => match codeFree (pinsOf fn.results.toList) c with
          | true => match T.fn g with
            | some gn => match evCode T callF fuel fn.ntmps c t1 m1 with
              | .ok (.normal, t2) m2 | .ok (.ret, t2) m2 => evFin T fn t2 (evClos T callF fuel gn .niface dargs m2)
              | .pan v m2 => evFin T fn (pinTree t1 (pinsOf fn.results.toList)) (evClos T callF fuel gn v dargs m2)
              | .fail w => .fail w
              | _ => .fail "exit"
            | none => .fail "fn"
          | false => .fail "pins"
        | _ => .fail "head"
      | .fail w => .fail w
      | _ => .fail "head"
    | false => .fail "args"
  | _ => .fail "body"

section
variable {T : Tab} {P : Program} (hT : TabOk T P)

theorem inList_mem {u : Nat} : ∀ {l : List Nat}, u ∈ l → inList u l = true := by
  intro l
  induction l with
  | nil => intro h; cases h
  | cons x r ih =>
    intro h
    simp only [inList]
    cases e : Nat.beq u x with
    | true => rfl
    | false =>
      rcases List.mem_cons.1 h with c | c
      · subst c; rw [Nat.beq_refl] at e; cases e
      · exact ih c

theorem opsFree_spec {S : List Nat} : ∀ {l : List Oper}, opsFree S l = true → ∀ o d, o ∈ l → o.dst = some d → d ∉ S := by
  intro l
  induction l with
  | nil => intro _ o d h; cases h
  | cons x r ih =>
    intro h o d hm hd hS
    simp only [opsFree] at h
    rcases List.mem_cons.1 hm with c | c
    · subst c
      rw [hd] at h
      simp only [inList_mem hS] at h
      cases h
    · split at h
      · exact ih h o d c hd hS
      · split at h
        · cases h
        · exact ih h o d c hd hS

theorem codeFree_avoids {S : List Nat} {D : Keep} (hD : ∀ u, u ∉ S → D.pin u = none) : ∀ {c : Code}, codeFree S c = true → D.avoids c := by
  intro c
  induction c with
  | region id ops draw =>
    intro h i o d hi hd
    exact hD d (opsFree_spec h o d (by rw [← Array.getElem?_toList] at hi; exact List.mem_of_getElem? hi) hd)
  | seq a b iha ihb =>
    intro h
    simp only [codeFree] at h
    split at h
    · rename_i ha; exact ⟨iha ha, ihb h⟩
    · cases h
  | cond c a b iha ihb =>
    intro h
    simp only [codeFree] at h
    split at h
    · rename_i ha; exact ⟨iha ha, ihb h⟩
    · cases h
  | block id a iha => intro h; exact iha h
  | loop a iha => intro h; exact iha h
  | _ => intro _; trivial

theorem pinTree_get {t : Tree AVal} : ∀ {S : List Nat} {u : Nat} {v : AVal}, (pinTree t S).get u = some v → u ∈ S ∧ t.get u = some v := by
  intro S
  induction S with
  | nil => intro u v h; simp [pinTree, Tree.get_leaf] at h
  | cons x r ih =>
    intro u v h
    simp only [pinTree] at h
    split at h
    · rename_i y hy
      rw [Tree.get_put] at h
      split at h
      · rename_i c; cases h; subst c; exact ⟨List.mem_cons_self, hy⟩
      · obtain ⟨a, b⟩ := ih h
        exact ⟨List.mem_cons_of_mem _ a, b⟩
    · obtain ⟨a, b⟩ := ih h
      exact ⟨List.mem_cons_of_mem _ a, b⟩

theorem deferOf_spec {o : Op} {c : Call} (h : deferOf o = some c) : o = .defer c := by
  cases o <;> simp [deferOf] at h
  subst h; rfl

theorem isRecover_spec {ρ : Operand → Value} {o : Oper} (h : isRecover o.op = true) (w : World) : (execOp ρ o).run P w = .ok .recover w := by
  cases ho : o.op <;> rw [ho] at h <;> simp [isRecover] at h
  rename_i c
  split at h
  · rename_i hc
    simp only [execOp, ho, resolve, hc]
    simp [invoke, builtin]
  · cases h

include hT in
theorem evHead_ok {callF : FuncId → List AVal → AMem → Out AVal} (hcall : ∀ f, CallOk T P f (callF f)) {n : Nat} {ops : Array Oper} {Q : Exit → Act → World → Prop} :
    ∀ (rest : List Oper) (k : Nat), ops.toList.drop k = rest → ∀ {r : Ren} {t : Tree AVal} {a : Act} {m : AMem} {w : World} {t1 : Tree AVal} {m1 : AMem} {g : FuncId} {args : List AVal} {rest1 : List Oper},
      GlobOk T r → TRel Keep.none r t n a → MemRel r m.next m.get w → evHead T callF n ops rest t m = some (t1, m1, g, args, rest1) →
      (∀ (k1 : Nat) (r' : Ren) (a' : Act) (w' : World) (fv : Fn) (cap dargs args' : Array Value), ops.toList.drop k1 = rest1 → VsRel r' args args'.toList → invoke (.fn fv cap) dargs = callFunc g args' →
        TRel ⟨[⟨.fn fv cap, dargs⟩], fun _ => none⟩ r' t1 n a' → GlobOk T r' → Step r m.next m.get w r' m1.next m1.get w' → wpOps P ops Q (List.range' k1 rest1.length) a' w') →
      wpOps P ops Q (List.range' k rest.length) a w := by
  intro rest
  induction rest with
  | nil => intro k _ r t a m w t1 m1 g args rest1 _ _ _ h; cases h
  | cons o rest ih =>
    intro k hk r t a m w t1 m1 g args rest1 hg ht hm h hQ
    have ho : ops[k]? = some o := by
      rw [← Array.getElem?_toList]
      have := congrArg (fun l => l[0]?) hk
      simpa [List.getElem?_drop] using this
    have hk2 : ops.toList.drop (k + 1) = rest := by
      have := congrArg (fun l => l.drop 1) hk
      simpa [List.drop_drop] using this
    simp only [List.length_cons, List.range'_succ, wpOps, ho]
    simp only [evHead] at h
    split at h
    · rename_i hw
      rw [wanted_ok ht hw]
      simp only [if_true]
      left
      split at h
      · rename_i c hc
        have hop := deferOf_spec hc
        split at h
        · rename_i fo hcal
          split at h
          · rename_i g' first captured hf
            split at h
            · rename_i t' hp
              cases h
              have hf2 := ev_rel (T := T) hg ht fo
              rw [hf] at hf2
              obtain ⟨f', c', e, h1, h2⟩ := hf2.func_inv
              have hx : (execOp a.eval o).run P w = .ok (.defer ⟨.fn (.func g) c', f' ++ c.args.map a.eval⟩) w := by
                simp only [execOp, hop, resolve, hcal, Deferred.ofValue, e]
                rfl
              unfold Oper.wp
              rw [hx]
              have ht2 := putDst_ok ht (undef_rel r) (fun _ _ => rfl) hp
              refine hQ (k + 1) r _ w (.func g) c' (f' ++ c.args.map a.eval) (f' ++ c.args.map a.eval ++ c') hk2 ?_ rfl ?_ hg (.refl hm)
              · rw [Array.toList_append, Array.toList_append]
                exact (h1.append (evList_rel (T := T) hg ht c.args)).append h2
              · have hd := ht.calm.1
                refine ⟨?_, fun i v hv => ?_, ?_, fun _ _ e => by cases e⟩
                · have := ht2.size
                  cases hod : o.dst <;> rw [hod] at this <;> simpa [Act.put] using this
                · have := ht2.at_ i v hv
                  cases hod : o.dst <;> rw [hod] at this <;> simpa [Act.put] using this
                · cases o.dst <;> simp [Act.put, hd, Keep.none]
            · cases h
          · cases h
        · cases h
      · refine evOne_ok hT hcall hg ht hm ?_
        split at h
        · rename_i v m' hone
          rw [hone]
          split at h
          · rename_i t' hp
            intro r' v' w' hv hg' hst
            exact ih (k + 1) hk2 hg' (putDst_ok (ht.mono hst.le) hv (fun _ _ => rfl) hp) hst.mem h fun k1 r2 a2 w2 fv cap dargs args' q1 q2 q3 q4 q5 q6 => hQ k1 r2 a2 w2 fv cap dargs args' q1 q2 q3 q4 q5 (hst.trans q6)
          · cases h
        · cases h
    · cases h

/-- What a call of recover finds. -/
def RecSt (r : Ren) (rv : Option AVal) (cs cs1 : List Frame) : Prop :=
  match rv with
  | none => cs = cs1
  | some v => (∃ v', recoverD cs = some (v', cs1) ∧ VRel r v v') ∨ (recoverD cs = none ∧ v = .niface ∧ cs = cs1)

theorem RecSt.mono {r r' : Ren} {rv : Option AVal} {cs cs1 : List Frame} (h : RecSt r rv cs cs1) (hle : r.le r') : RecSt r' rv cs cs1 := by
  cases rv with
  | none => exact h
  | some v =>
    rcases h with ⟨v', e, hv⟩ | h
    · exact .inl ⟨v', e, hv.mono hle⟩
    · exact .inr h

include hT in
theorem evRec_ok {callF : FuncId → List AVal → AMem → Out AVal} (hcall : ∀ f, CallOk T P f (callF f)) {n : Nat} {ops : Array Oper} {Q : Exit → Act → List Frame → World → Prop} {cs1 : List Frame} :
    ∀ (rest : List Oper) (k : Nat), ops.toList.drop k = rest → ∀ {r : Ren} {t : Tree AVal} {a : Act} {m : AMem} {w : World} {cs : List Frame} {rv : Option AVal} {t1 : Tree AVal} {m1 : AMem},
      GlobOk T r → TRel Keep.none r t n a → MemRel r m.next m.get w → RecSt r rv cs cs1 → evRec T callF n ops rest rv t m = some (t1, m1) →
      (∀ (r' : Ren) (a' : Act) (w' : World), TRel Keep.none r' t1 n a' → GlobOk T r' → Step r m.next m.get w r' m1.next m1.get w' → Q .normal a' cs1 w') →
      wpOpsS P ops Q (List.range' k rest.length) a cs w := by
  intro rest
  induction rest with
  | nil =>
    intro k _ r t a m w cs rv t1 m1 hg ht hm hr h hQ
    simp only [evRec] at h
    split at h
    · cases h
      have : cs = cs1 := hr
      subst this
      exact hQ r a w ht hg (.refl hm)
    · cases h
  | cons o rest ih =>
    intro k hk r t a m w cs rv t1 m1 hg ht hm hr h hQ
    have ho : ops[k]? = some o := by
      rw [← Array.getElem?_toList]
      have := congrArg (fun l => l[0]?) hk
      simpa [List.getElem?_drop] using this
    have hk2 : ops.toList.drop (k + 1) = rest := by
      have := congrArg (fun l => l.drop 1) hk
      simpa [List.drop_drop] using this
    simp only [List.length_cons, List.range'_succ, wpOpsS, ho]
    simp only [evRec] at h
    split at h
    · cases h
    · rename_i hw
      rw [wanted_ok ht hw]
      simp only [Bool.false_eq_true, if_false]
      split at h
      · rename_i t' hp
        exact ih (k + 1) hk2 hg (putDst_ok ht (undef_rel r) (fun _ _ => rfl) hp) hm hr h hQ
      · cases h
    · rename_i hw
      rw [wanted_ok ht hw]
      simp only [if_true]
      split at h
      · rename_i hrec
        rw [isRecover_spec hrec]
        simp only
        split at h
        · rename_i v
          split at h
          · rename_i t' hp
            rcases hr with ⟨v', e, hv⟩ | ⟨e, rfl, rfl⟩
            · rw [e]
              exact ih (k + 1) hk2 hg (putDst_ok ht hv (fun _ _ => rfl) hp) hm (show RecSt _ none _ _ from rfl) h hQ
            · rw [e]
              exact ih (k + 1) hk2 hg (putDst_ok ht .niface (fun _ _ => rfl) hp) hm (show RecSt _ none _ _ from rfl) h hQ
          · cases h
        · cases h
      · have key : o.wp P a w (fun a' w' => wpOpsS P ops Q (List.range' (k + 1) rest.length) a' cs w') (fun e a' w' => Q e a' cs w') := by
          refine evOne_ok hT hcall hg ht hm ?_
          split at h
          · rename_i v m' hone
            rw [hone]
            split at h
            · rename_i t' hp
              intro r' v' w' hv hg' hst
              exact ih (k + 1) hk2 hg' (putDst_ok (ht.mono hst.le) hv (fun _ _ => rfl) hp) hst.mem (hr.mono hst.le) h fun r2 a2 w2 q1 q2 q3 => hQ r2 a2 w2 q1 q2 (hst.trans q3)
            · cases h
          · cases h
        unfold Oper.wp at key
        generalize (execOp a.eval o).run P w = R at key ⊢
        split
        · exact key.elim
        · exact key

/-- What results are. -/
theorem results_run {fn : Func} {a : Act} : ∃ F : ResultVar → Sem Value, results fn a.tmps = (do let vs ← fn.results.mapM F; pure (if h : vs.size = 1 then vs[0] else .tuple vs)) ∧
    (∀ i, F (.tmp i) = pure (a.tmps.getD i undef)) ∧ (∀ b u, F (.cell b u) = (do loadVar u (← asAddr (a.tmps.getD b undef)))) := ⟨_, rfl, fun _ => rfl, fun _ _ => rfl⟩

include hT in
theorem results_ok {D : Keep} {fn : Func} {r : Ren} {t : Tree AVal} {n : Nat} {a : Act} {m : AMem} {w : World} {vs : List AVal} (hg : GlobOk T r) (ht : TRel D r t n a) (hm : MemRel r m.next m.get w) (hr : resultsOf T t m fn.results.toList = some vs) :
    ∃ v, (results fn a.tmps).run P w = .ok v w ∧ VRel r (oneResult vs) v := by
  obtain ⟨F, eF, f1, f2⟩ := results_run (fn := fn) (a := a)
  obtain ⟨vs', e, hv⟩ := resultsOf_ok (P := P) hT hg ht hm F f1 f2 hr
  have hlen := hv.len
  refine ⟨if h : vs'.toArray.size = 1 then vs'.toArray[0] else .tuple vs'.toArray, ?_, ?_⟩
  · rw [eF, Array.mapM_eq_mapM_toList]
    simp only [Sem.run_bind, Sem.run_map, e, Result.andThen_ok, Sem.run_pure]
  · cases vs with
    | nil =>
      have := hv.nil_inv
      subst this
      exact .tupleOf (.nil r)
    | cons v vs =>
      cases vs with
      | nil =>
        obtain ⟨v', t', e1, e2, e3⟩ := hv.cons_inv
        have := e3.nil_inv
        subst this
        subst e1
        exact e2
      | cons u us =>
        have hne : ¬ vs'.toArray.size = 1 := by simp; simp at hlen; omega
        rw [dif_neg hne]
        exact .tupleOf hv

include hT in
theorem evClos_ok {callF : FuncId → List AVal → AMem → Out AVal} (hcall : ∀ f, CallOk T P f (callF f)) {fuel : Nat} {g : FuncId} {gn : Func} (hreg : RegionOk Keep.none T P callF gn.ntmps) (hf : P.funcs[g]? = some gn)
    {r : Ren} {w : World} {m m1 : AMem} {rv : AVal} {args : List AVal} {args' : Array Value} {u u1 : FrameMode} (hg : GlobOk T r) (hm : MemRel r m.next m.get w) (ha : VsRel r args args'.toList)
    (hrec : ∀ (c₀ : Frame) (cs : List Frame), c₀.mode = u → RecSt r (some rv) (c₀ :: cs) ({ c₀ with mode := u1 } :: cs)) (h : evClos T callF fuel gn rv args m = some m1) :
    CallsD P g args' u w fun e u' w' => ∃ v r', e = .returned v ∧ u' = u1 ∧ GlobOk T r' ∧ Step r m.next m.get w r' m1.next m1.get w' := by
  unfold evClos at h
  split at h
  · rename_i id ops c hb
    split at h
    · rename_i hle
      have hn := Nat.le_of_ble_eq_true hle
      have ht := argTree_rel (n := gn.ntmps) ha hn
      split at h
      · rename_i t m0 hev
        refine callsD_of_wpS hf hb fun c₀ cs hu => ?_
        refine wpS_seq (wpS_region ?_)
        rw [List.range_eq_range', show ops.size = ops.toList.length from Array.length_toList.symm]
        refine evRec_ok hT hcall ops.toList 0 rfl hg ht hm (hrec c₀ cs hu) hev fun r' a' w' p q s => ?_
        refine wpS_of_wp (evCode_ok (fuel := fuel) hreg c r' t a' m0 w' _ (Keep.avoids_none c) q p s.mem ?_)
        have fin : ∀ (t2 : Tree AVal) (vs : List AVal), resultsOf T t2 m1 gn.results.toList = some vs → ∀ r2 a2 w2, TRel Keep.none r2 t2 gn.ntmps a2 → GlobOk T r2 → Step r' m0.next m0.get w' r2 m1.next m1.get w2 →
            a2.defers = [] ∧ ∃ u', ({ c₀ with mode := u1 } :: cs : List Frame) = { c₀ with mode := u' } :: cs ∧ ∃ v, (results gn a2.tmps).run P w2 = .ok v w2 ∧
              (∃ v' r'', Ending.returned v = .returned v' ∧ u' = u1 ∧ GlobOk T r'' ∧ Step r m.next m.get w r'' m1.next m1.get w2) := by
          intro t2 vs hr r2 a2 w2 p2 q2 s2
          obtain ⟨v, e, _⟩ := results_ok (P := P) hT q2 p2 s2.mem hr
          exact ⟨p2.calm.1, u1, rfl, v, e, v, r2, rfl, rfl, q2, s.trans s2⟩
        split at h
        · rename_i t2 m2 hc
          split at h
          · rename_i vs hr
            cases h
            rw [hc]
            exact fin t2 vs hr
          · cases h
        · rename_i t2 m2 hc
          split at h
          · rename_i vs hr
            cases h
            rw [hc]
            exact fin t2 vs hr
          · cases h
        · cases h
      · cases h
    · cases h
  · cases h

include hT in
theorem evDef_ok {callF : FuncId → List AVal → AMem → Out AVal} (hcall : ∀ f, CallOk T P f (callF f)) {fuel : Nat} {f : FuncId} {fn : Func} (hreg : ∀ D n, RegionOk D T P callF n) (hf : T.fn f = some fn) :
    CallOk T P f (evDef T callF fuel fn) := by
  intro r w m args args' hg hm ha hgood
  obtain ⟨hf1, hf2⟩ := hT.fn f fn hf
  unfold evDef at hgood ⊢
  split at hgood
  · rename_i x id ops c hb
    refine .inr ⟨?_, ?_⟩
    · have hbn : ¬ fn.body = none := by intro e; rw [e] at hb; cases hb
      have h2' : ¬ fn.name = "runtime.NumGoroutine" := by simpa using hf2
      simp [callFunc, hf1, h2', hbn]
    · split at hgood
      · rename_i hle
        have hn := Nat.le_of_ble_eq_true hle
        have ht := argTree_rel (n := fn.ntmps) ha hn
        split at hgood
        · rename_i t0 m0 hx0
          split at hgood
          · rename_i t1 m1 g dargs hhead
            split at hgood
            · rename_i hfree
              split at hgood
              · rename_i gn hgn
                obtain ⟨hg1, hg2⟩ := hT.fn g gn hgn
                refine calls_of_wp_defers hf1 hb (wp_seq (evCode_ok (fuel := fuel) (hreg Keep.none fn.ntmps) x r (argTree args) _ m w _ (Keep.avoids_none x) hg ht hm ?_))
                rw [hx0]
                intro r0 a0 w0 ht0 hg0 hst0
                refine wp_seq (wp_region ?_)
                rw [List.range_eq_range', show ops.size = ops.toList.length from Array.length_toList.symm]
                refine evHead_ok hT hcall ops.toList 0 rfl hg0 ht0 hst0.mem hhead fun k1 r1 a1 w1 fv cap dargs0 dargs' _ hda hinv ht1 hg1' hst1 => ?_
                simp only [List.length_nil, List.range'_zero, wpOps]
                -- the rest runs with the call deferred
                let D : Keep := ⟨[⟨.fn fv cap, dargs0⟩], fun u => if u ∈ pinsOf fn.results.toList then some (a1.tmps.getD u undef) else none⟩
                have htD : TRel D r1 t1 fn.ntmps a1 := ⟨ht1.size, ht1.at_, ht1.calm.1, fun u v e => by
                  simp only [D] at e
                  split at e
                  · cases e; rfl
                  · cases e⟩
                have hav : D.avoids c := codeFree_avoids (S := pinsOf fn.results.toList) (fun u hu => by simp only [D]; rw [if_neg hu]) hfree
                show c.wp P _ a1 w1
                refine evCode_ok (fuel := fuel) (hreg D fn.ntmps) c r1 t1 a1 m1 w1 _ hav hg1' htD hst1.mem ?_
                have enter : ∀ w, (invoke (.fn fv cap) dargs0).run P w = .ok (.enter g dargs') w := by
                  intro w
                  rw [hinv]
                  have hbody : ∀ {rv : AVal} {m2 m3 : AMem}, evClos T callF fuel gn rv dargs m2 = some m3 → ¬ gn.body = none := by
                    intro rv m2 m3 h e
                    unfold evClos at h
                    rw [e] at h
                    cases h
                  have hbn : ¬ gn.body = none := by
                    split at hgood
                    · cases hx : evClos T callF fuel gn .niface dargs _ with
                      | some m3 => exact hbody hx
                      | none => rw [hx] at hgood; exact hgood.elim
                    · cases hx : evClos T callF fuel gn .niface dargs _ with
                      | some m3 => exact hbody hx
                      | none => rw [hx] at hgood; exact hgood.elim
                    · cases hx : evClos T callF fuel gn _ dargs _ with
                      | some m3 => exact hbody hx
                      | none => rw [hx] at hgood; exact hgood.elim
                    · exact hgood.elim
                    · exact hgood.elim
                  have h2' : ¬ gn.name = "runtime.NumGoroutine" := by simpa using hg2
                  simp [callFunc, hg1, h2', hbn]
                have fin : ∀ (rv : AVal) (t2 : Tree AVal) (m2 : AMem) (u : FrameMode) (u1 : FrameMode) (r2 : Ren) (a2 : Act) (w2 : World) (out : Out AVal), out = evFin T fn t2 (evClos T callF fuel gn rv dargs m2) → out.good →
                    u ≠ .run → settle u1 = .returning → (∀ (c₀ : Frame) (cs : List Frame), c₀.mode = u → RecSt r2 (some rv) (c₀ :: cs) ({ c₀ with mode := u1 } :: cs)) → a2.defers = [⟨.fn fv cap, dargs0⟩] →
                    (∀ i v, t2.get i = some v → VRel r2 v (a2.tmps.getD i undef)) → GlobOk T r2 → Step r1 m1.next m1.get w1 r2 m2.next m2.get w2 →
                    Leaves P fn a2.tmps (Post r m w out) a2.defers u w2 := by
                  intro rv t2 m2 u u1 r2 a2 w2 out hout hgo hu hset hrec hdef htm hg2' s2
                  rw [hdef]
                  refine leaves_cons hu (enter w2) ?_
                  cases hx : evClos T callF fuel gn rv dargs m2 with
                  | none => rw [hx] at hout; subst hout; exact hgo.elim
                  | some m3 =>
                    rw [hx] at hout
                    refine (evClos_ok hT hcall (fuel := fuel) (hreg _ _) hg1 hg2' s2.mem (hda.mono s2.le) hrec hx).mono ?_
                    rintro e u' w3 ⟨v, r3, rfl, rfl, hg3, s3⟩
                    simp only [hset]
                    simp only [evFin] at hout
                    cases hr : resultsOf T t2 m3 fn.results.toList with
                    | none => rw [hr] at hout; subst hout; exact hgo.elim
                    | some vs =>
                      rw [hr] at hout
                      subst hout
                      have ht3 : TRel ⟨a2.defers, fun _ => none⟩ r3 t2 a2.tmps.size a2 := ⟨rfl, fun i v e => (htm i v e).mono s3.le, rfl, fun _ _ e => by cases e⟩
                      obtain ⟨v, e, hv⟩ := results_ok (P := P) hT hg3 ht3 s3.mem hr
                      exact ⟨v, e, r3, v, rfl, hv, hst0.trans ((hst1.trans s2).trans s3)⟩
                have noRec : ∀ (r2 : Ren) (c₀ : Frame) (cs : List Frame), c₀.mode = .returning → RecSt r2 (some .niface) (c₀ :: cs) ({ c₀ with mode := .returning } :: cs) := by
                  intro r2 c₀ cs hc
                  refine .inr ⟨by simp [recoverD, hc], rfl, ?_⟩
                  cases c₀
                  simp only at hc
                  subst hc
                  rfl
                cases hx : evCode T callF fuel fn.ntmps c t1 m1 with
                | ok z m2 =>
                  obtain ⟨e, t2⟩ := z
                  rw [hx] at hgood
                  cases e with
                  | normal => exact fun r2 a2 w2 p q s => fin .niface t2 m2 .returning .returning r2 a2 w2 _ rfl hgood (by simp) rfl (noRec r2) p.calm.1 p.at_ q s
                  | ret => exact fun r2 a2 w2 p q s => fin .niface t2 m2 .returning .returning r2 a2 w2 _ rfl hgood (by simp) rfl (noRec r2) p.calm.1 p.at_ q s
                  | exit id => exact hgood.elim
                  | goto l => exact hgood.elim
                | pan v m2 =>
                  rw [hx] at hgood
                  intro r2 a2 v' w2 hcalm hv s
                  refine fin v (pinTree t1 (pinsOf fn.results.toList)) m2 (.panicking [{ v := v', recovered := false }]) (.panicking [{ v := v', recovered := true }]) r2 a2 w2 _ rfl hgood (by simp) (by simp [settle]) (fun c₀ cs hc => .inl ⟨v', by simp [recoverD, hc], hv⟩) hcalm.1
                    (fun i x e => ?_) (hg1'.mono s.le) s
                  obtain ⟨hi, e⟩ := pinTree_get e
                  rw [hcalm.2 i (a1.tmps.getD i undef) (by simp only [D]; rw [if_pos hi])]
                  exact (ht1.at_ i x e).mono s.le
                | fail why => rw [hx] at hgood; exact hgood.elim
              · exact hgood.elim
            · exact hgood.elim
          · exact hgood.elim
        · exact hgood.elim
        · exact hgood.elim
      · exact hgood.elim
  · exact hgood.elim
end
end
end Ev
end Go.Proofs.YtfddpaljmihinaaGreatDoor
