/-
  The evaluator once more, made ready: what depends on the code alone stands in boxes that the kernel opens once; and that it answers the same. (Conditions: none.)
-/
import Derived.Test.YtfddpaljmihinaaGreatDoorEvDraw5
namespace Go.Proofs.YtfddpaljmihinaaGreatDoor
namespace Ev
open Go
noncomputable section

structure BE where
  f : Tree AVal → AVal
structure BP where
  f : Tree AVal → Option AVal
structure BR where
  f : Tree AVal → (Nat → Option ABlk) → Option AVal
structure BW where
  f : Tree AVal → AMem → Res
structure BO where
  f : Tree AVal → AMem → Out AVal
structure BT where
  f : Tree AVal → AMem → Out (Tree AVal)
structure BC where
  f : Tree AVal → AMem → Out (Ex × Tree AVal)
structure BF where
  f : List AVal → AMem → Out AVal

def cE (T : Tab) (x : Operand) : BE :=
  match x with
  | .tmp i => ⟨fun t => Option.rec (motive := fun _ => AVal) .any (fun v => v) (t.get i)⟩
  | .const v => ⟨fun _ => absV v⟩
  | .global g => match T.glob g with
    | true => ⟨fun _ => .ptr g 0⟩
    | false => ⟨fun _ => .any⟩
  | .func f => ⟨fun _ => .func (.func f) [] []⟩

theorem cE_eq (T : Tab) (x : Operand) (t : Tree AVal) : (cE T x).f t = ev T t x := by
  cases x with
  | tmp i => simp only [cE, ev]; cases t.get i <;> rfl
  | const v => rfl
  | global g => simp only [cE, ev]; cases T.glob g <;> rfl
  | func f => rfl

def cP (T : Tab) (o : Op) : BP :=
  match o with
  | .move x => ⟨fun t => some ((cE T x).f t)⟩
  | .assign x => ⟨fun t => some ((cE T x).f t)⟩
  | .binOp op xt x y _ => ⟨fun t => binop T op xt x y ((cE T x).f t) ((cE T y).f t)⟩
  | .unOp op _ x => ⟨fun t => unop op ((cE T x).f t)⟩
  | .convert a b x => ⟨fun t => convOp T a b ((cE T x).f t)⟩
  | .fieldAddr s x f => ⟨fun t => fieldAddrOp T s ((cE T x).f t) f⟩
  | .field s x f => ⟨fun t => fieldOp T s ((cE T x).f t) f⟩
  | .indexAddr xt x i => ⟨fun t => indexAddrOp T xt ((cE T x).f t) ((cE T i).f t)⟩
  | .index xt x i => ⟨fun t => indexOp T xt ((cE T x).f t) ((cE T i).f t)⟩
  | .extract x i => ⟨fun t => match (cE T x).f t with | .tuple vs => vs[i]? | _ => none⟩
  | o => ⟨fun t => evP T t o⟩

theorem cP_eq (T : Tab) (o : Op) (t : Tree AVal) : (cP T o).f t = evP T t o := by
  cases o with
  | extract x i => simp only [cP, evP, cE_eq]; cases ev T t x <;> rfl
  | _ => simp only [cP, evP, cE_eq]

def cR (T : Tab) (o : Op) : BR :=
  match o with
  | .load u x => ⟨fun t g => loadOp T g u ((cE T x).f t)⟩
  | o => ⟨fun t g => evR T t g o⟩

theorem cR_eq (T : Tab) (o : Op) (t : Tree AVal) (g : Nat → Option ABlk) : (cR T o).f t g = evR T t g o := by
  cases o <;> simp only [cR, evR, cE_eq]

def cW (T : Tab) (o : Op) : BW :=
  match o with
  | .store u a x => ⟨fun t m => storeOp T m u ((cE T a).f t) ((cE T x).f t)⟩
  | o => ⟨fun t m => evW T t m o⟩

theorem cW_eq (T : Tab) (o : Op) (t : Tree AVal) (m : AMem) : (cW T o).f t m = evW T t m o := by
  cases o <;> simp only [cW, evW, cE_eq]

/-- A direct call of a function. -/
def callOf (o : Op) : Option (FuncId × Array Operand) :=
  match o with
  | .call c => match c.callee with
    | .value x => match x with
      | .func g => some (g, c.args)
      | _ => none
    | _ => none
  | _ => none

def cOp (T : Tab) (callF : FuncId → List AVal → AMem → Out AVal) (o : Op) : BO :=
  match callOf o with
  | some (g, args) => ⟨fun t m => callF g (evList T t args) m⟩
  | none => match kindOf T o with
    | .p => ⟨fun t m => Option.rec (motive := fun _ => Out AVal) (.fail "") (fun v => .ok v m) ((cP T o).f t)⟩
    | .r => ⟨fun t m => Option.rec (motive := fun _ => Out AVal) (.fail "") (fun v => .ok v m) ((cR T o).f t m.get)⟩
    | .a => ⟨fun t m => match evA T t m.next o with | some (v, k) => .ok v (m.new k) | none => .fail ""⟩
    | .w => ⟨fun t m => match (cW T o).f t m with
      | .val v m' => .ok v m'
      | .call f args => callF f args m
      | .pan v => .pan v m
      | .fail => .fail ""⟩

theorem callOf_spec {o : Op} {g : FuncId} {args : Array Operand} (h : callOf o = some (g, args)) : ∃ ts, o = .call ⟨.value (.func g), args, ts⟩ := by
  unfold callOf at h
  split at h
  · rename_i c
    obtain ⟨callee, as, ts⟩ := c
    split at h
    · rename_i x hc
      simp only at hc
      subst hc
      split at h
      · cases h; exact ⟨ts, rfl⟩
      · cases h
    · cases h
  · cases h

theorem cOp_eq (T : Tab) (callF : FuncId → List AVal → AMem → Out AVal) (o : Op) (t : Tree AVal) (m : AMem) : (cOp T callF o).f t m = evOne T callF t m o := by
  unfold cOp
  cases hc : callOf o with
  | some x =>
    obtain ⟨g, args⟩ := x
    obtain ⟨ts, rfl⟩ := callOf_spec hc
    simp only [evOne, kindOf, evW, ev, List.nil_append, List.append_nil]
  | none =>
    simp only
    unfold evOne
    cases kindOf T o with
    | p => simp only [cP_eq]; cases evP T t o <;> rfl
    | r => simp only [cR_eq]; cases evR T t m.get o <;> rfl
    | a => rfl
    | w => simp only [cW_eq]; cases evW T t m o <;> rfl

def posOr (pos w : String) : String :=
  match w with
  | "" => pos
  | w => w

theorem posOr_fail {pos w : String} {A : AVal → AMem → Out (Tree AVal)} : (Out.fail (posOr pos w) : Out (Tree AVal)) = match (Out.fail w : Out AVal) with
    | .ok v m' => A v m'
    | .pan v m' => .pan v m'
    | .fail "" => .fail pos
    | .fail w => .fail w := by
  by_cases h : w = ""
  · subst h; rfl
  · simp [posOr]

/-- An operation, its place, and what follows. -/
def cStep (n : Nat) (op : BO) (d : Option Nat) (pos : String) (next : BT) : BT :=
  match d with
  | none => ⟨fun t m => Out.rec (motive := fun _ => Out (Tree AVal)) (fun _ m' => next.f t m') (fun v m' => .pan v m') (fun w => .fail (posOr pos w)) (op.f t m)⟩
  | some d => match Nat.blt d n with
    | true => ⟨fun t m => Out.rec (motive := fun _ => Out (Tree AVal)) (fun v m' => next.f (t.put d v) m') (fun v m' => .pan v m') (fun w => .fail (posOr pos w)) (op.f t m)⟩
    | false => ⟨fun t m => Out.rec (motive := fun _ => Out (Tree AVal)) (fun _ _ => .fail pos) (fun v m' => .pan v m') (fun w => .fail (posOr pos w)) (op.f t m)⟩

def cOps (T : Tab) (callF : FuncId → List AVal → AMem → Out AVal) (n : Nat) (all : Array Oper) : List Oper → BT
  | [] => ⟨fun t m => .ok t m⟩
  | o :: rest => match o.guard with
    | none => cStep n (cOp T callF o.op) o.dst o.pos (cOps T callF n all rest)
    | some _ => ⟨fun t m => match wantedOp all t o with
      | none => .fail o.pos
      | some false => match putDst n t o.dst (.tuple []) with
        | some t' => (cOps T callF n all rest).f t' m
        | none => .fail o.pos
      | some true => (cStep n (cOp T callF o.op) o.dst o.pos (cOps T callF n all rest)).f t m⟩

theorem cStep_eq {T : Tab} {callF : FuncId → List AVal → AMem → Out AVal} {n : Nat} {all : Array Oper} {o : Oper} {rest : List Oper} (ih : ∀ t m, (cOps T callF n all rest).f t m = evOps T callF n all rest t m) (t : Tree AVal) (m : AMem) :
    (cStep n (cOp T callF o.op) o.dst o.pos (cOps T callF n all rest)).f t m = match evOne T callF t m o.op with
      | .ok v m' => match putDst n t o.dst v with
        | some t' => evOps T callF n all rest t' m'
        | none => .fail o.pos
      | .pan v m' => .pan v m'
      | .fail "" => .fail o.pos
      | .fail w => .fail w := by
  unfold cStep putDst
  cases o.dst with
  | none =>
    simp only [cOp_eq]
    cases evOne T callF t m o.op with
    | ok v m' => exact ih t m'
    | pan v m' => rfl
    | fail w => exact posOr_fail
  | some d =>
    simp only
    cases Nat.blt d n with
    | true =>
      simp only [cOp_eq]
      cases evOne T callF t m o.op with
      | ok v m' => exact ih (t.put d v) m'
      | pan v m' => rfl
      | fail w => exact posOr_fail
    | false =>
      simp only [cOp_eq]
      cases evOne T callF t m o.op with
      | ok v m' => rfl
      | pan v m' => rfl
      | fail w => exact posOr_fail

theorem cOps_eq (T : Tab) (callF : FuncId → List AVal → AMem → Out AVal) (n : Nat) (all : Array Oper) : ∀ (l : List Oper) (t : Tree AVal) (m : AMem), (cOps T callF n all l).f t m = evOps T callF n all l t m := by
  intro l
  induction l with
  | nil => intro t m; rfl
  | cons o rest ih =>
    intro t m
    simp only [cOps, evOps]
    cases hg : o.guard with
    | none =>
      have hw : wantedOp all t o = some true := by simp [wantedOp, hg]
      simp only [hw]
      exact cStep_eq ih t m
    | some g =>
      simp only
      cases wantedOp all t o with
      | none => rfl
      | some b => cases b with
        | false =>
          simp only
          cases putDst n t o.dst (.tuple []) with
          | none => rfl
          | some t' => exact ih t' m
        | true => exact cStep_eq ih t m

def cRegion (T : Tab) (callF : FuncId → List AVal → AMem → Out AVal) (n : Nat) (ops : Array Oper) (draw : Bool) : BT :=
  match draw with
  | false => cOps T callF n ops ops.toList
  | true => ⟨fun t m => evDraw T callF n ops t m⟩

theorem cRegion_eq (T : Tab) (callF : FuncId → List AVal → AMem → Out AVal) (n : Nat) (ops : Array Oper) (draw : Bool) (t : Tree AVal) (m : AMem) : (cRegion T callF n ops draw).f t m = evRegion T callF n ops draw t m := by
  cases draw with
  | false => exact cOps_eq T callF n ops ops.toList t m
  | true => rfl

def regionOf (c : Code) : Option (Array Oper × Bool) :=
  match c with
  | .region _ ops draw => some (ops, draw)
  | _ => none

theorem regionOf_spec {c : Code} {x : Array Oper × Bool} (h : regionOf c = some x) : ∃ id, c = .region id x.1 x.2 := by
  cases c <;> simp only [regionOf] at h
  case region id ops draw => cases h; exact ⟨id, rfl⟩
  all_goals cases h

def cCode (T : Tab) (callF : FuncId → List AVal → AMem → Out AVal) (fuel n : Nat) : Code → BC
  | .skip => ⟨fun t m => .ok (.normal, t) m⟩
  | .region _ ops draw => ⟨fun t m => Out.rec (motive := fun _ => Out (Ex × Tree AVal)) (fun t' m' => .ok (.normal, t') m') (fun v m' => .pan v m') (fun w => .fail w) ((cRegion T callF n ops draw).f t m)⟩
  | .seq a b => match regionOf a with
    | some (ops, draw) => ⟨fun t m => Out.rec (motive := fun _ => Out (Ex × Tree AVal)) (fun t' m' => (cCode T callF fuel n b).f t' m') (fun v m' => .pan v m') (fun w => .fail w) ((cRegion T callF n ops draw).f t m)⟩
    | none => ⟨fun t m => match (cCode T callF fuel n a).f t m with
      | .ok (.normal, t') m' => (cCode T callF fuel n b).f t' m'
      | r => r⟩
  | .cond c x y => ⟨fun t m => match (cE T c).f t with
    | .bool true => (cCode T callF fuel n x).f t m
    | .bool false => (cCode T callF fuel n y).f t m
    | _ => .fail "cond"⟩
  | .block id c => ⟨fun t m => match (cCode T callF fuel n c).f t m with
    | .ok (.exit id', t') m' => if id' = id then .ok (.normal, t') m' else .ok (.exit id', t') m'
    | r => r⟩
  | .loop c => ⟨fun t m => iter (fun t m => (cCode T callF fuel n c).f t m) fuel t m⟩
  | .exit id => ⟨fun t m => .ok (.exit id, t) m⟩
  | .ret => ⟨fun t m => .ok (.ret, t) m⟩
  | _ => ⟨fun _ _ => .fail "code"⟩

theorem cCode_eq (T : Tab) (callF : FuncId → List AVal → AMem → Out AVal) (fuel n : Nat) : ∀ (c : Code) (t : Tree AVal) (m : AMem), (cCode T callF fuel n c).f t m = evCode T callF fuel n c t m := by
  intro c
  induction c with
  | skip => intro t m; rfl
  | region id ops draw =>
    intro t m
    simp only [cCode, evCode, cRegion_eq]
    cases evRegion T callF n ops draw t m <;> rfl
  | seq a b iha ihb =>
    intro t m
    cases hr : regionOf a with
    | some x =>
      obtain ⟨ops, draw⟩ := x
      obtain ⟨id, rfl⟩ := regionOf_spec hr
      simp only [cCode, hr, evCode, cRegion_eq]
      cases evRegion T callF n ops draw t m with
      | ok t' m' => exact ihb t' m'
      | pan v m' => rfl
      | fail w => rfl
    | none =>
      simp only [cCode, hr, evCode, iha, ihb]
      cases evCode T callF fuel n a t m with
      | ok z m' => obtain ⟨e, t'⟩ := z; cases e <;> rfl
      | pan v m' => rfl
      | fail w => rfl
  | cond c x y ihx ihy =>
    intro t m
    simp only [cCode, evCode, cE_eq, ihx, ihy]
    cases ev T t c with
    | bool b => cases b <;> rfl
    | _ => rfl
  | block id c ih =>
    intro t m
    simp only [cCode, evCode, ih]
    cases evCode T callF fuel n c t m with
    | ok z m' => obtain ⟨e, t'⟩ := z; cases e <;> rfl
    | pan v m' => rfl
    | fail w => rfl
  | loop c ih =>
    intro t m
    have : (fun t m => (cCode T callF fuel n c).f t m) = evCode T callF fuel n c := by funext t m; exact ih t m
    simp only [cCode, evCode, this]
  | exit id => intro t m; rfl
  | ret => intro t m; rfl
  | _ => intros; rfl

def cBody (T : Tab) (callF : FuncId → List AVal → AMem → Out AVal) (fuel : Nat) (fn : Func) : BF :=
  match fn.body with
  | none => ⟨fun _ _ => .fail "body"⟩
  | some c => ⟨fun args m => match Nat.ble args.length fn.ntmps with
    | false => .fail "args"
    | true => match (cCode T callF fuel fn.ntmps c).f (argTree args) m with
      | .ok (.normal, t) m' | .ok (.ret, t) m' => match resultsOf T t m' fn.results.toList with
        | some vs => .ok (oneResult vs) m'
        | none => .fail "results"
      | .ok _ _ => .fail "exit"
      | .pan v m' => .pan v m'
      | .fail w => .fail w⟩

theorem cBody_eq (T : Tab) (callF : FuncId → List AVal → AMem → Out AVal) (fuel : Nat) (fn : Func) (args : List AVal) (m : AMem) : (cBody T callF fuel fn).f args m = evBody T callF fuel fn args m := by
  unfold cBody evBody
  cases fn.body with
  | none => rfl
  | some c =>
    simp only [cCode_eq]
    cases Nat.ble args.length fn.ntmps with
    | false => rfl
    | true =>
      simp only
      cases evCode T callF fuel fn.ntmps c (argTree args) m with
      | ok z m' => obtain ⟨e, t'⟩ := z; cases e <;> rfl
      | pan v m' => rfl
      | fail w => rfl

def cFn (T : Tab) : Nat → FuncId → BF
  | 0, _ => ⟨fun _ _ => .fail "depth"⟩
  | n + 1, f => match T.spec f with
    | some F => ⟨F⟩
    | none => match T.fn f with
      | some fn => cBody T (fun g args m => (cFn T n g).f args m) n fn
      | none => ⟨fun _ _ => .fail "fn"⟩

theorem cFn_eq (T : Tab) : ∀ (k : Nat) (f : FuncId) (args : List AVal) (m : AMem), (cFn T k f).f args m = evFn T k f args m := by
  intro k
  induction k with
  | zero => intros; rfl
  | succ k ih =>
    intro f args m
    have hc : (fun g args m => (cFn T k g).f args m) = evFn T k := by funext g a m; exact ih g a m
    simp only [cFn, evFn]
    cases T.spec f with
    | some F => rfl
    | none =>
      simp only
      cases T.fn f with
      | some fn => simp only [cBody_eq, hc]
      | none => rfl

/-- The evaluator, made ready. -/
def xFn (T : Tab) (k : Nat) (f : FuncId) (args : List AVal) (m : AMem) : Out AVal := (cFn T k f).f args m
theorem xFn_eq (T : Tab) (k : Nat) (f : FuncId) : xFn T k f = evFn T k f := by
  funext args m
  exact cFn_eq T k f args m
end
end Ev
end Go.Proofs.YtfddpaljmihinaaGreatDoor
