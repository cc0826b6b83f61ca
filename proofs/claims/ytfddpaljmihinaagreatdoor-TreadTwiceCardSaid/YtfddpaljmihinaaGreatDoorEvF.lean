/-
  The evaluator made ready: the same answers, with all that depends on the code alone opened once. (Conditions: none.)
-/
import Derived.Test.YtfddpaljmihinaaGreatDoorEvC
/-! ## EvFast -/
namespace Go.Proofs.YtfddpaljmihinaaGreatDoor
namespace Ev
open Go
noncomputable section

/-! ### Places in trees, made ready -/
inductive Path where
  | here
  | left (p : Path)
  | right (p : Path)

def pathF (f : Nat) : Nat → Path :=
  Nat.rec (motive := fun _ => Nat → Path) (fun _ => .here)
    (fun _ ih n => Nat.rec (motive := fun _ => Path) .here (fun k _ => Bool.rec (motive := fun _ => Path) (.right (ih (Nat.div k 2))) (.left (ih (Nat.div k 2))) (Nat.beq (Nat.mod k 2) 0)) n) f
def pathOf (n : Nat) : Path := pathF (n + 1) n

def Path.force {β : Type} (p : Path) : (Path → β) → β :=
  Path.rec (motive := fun _ => (Path → β) → β) (fun k => k .here) (fun _ ih k => ih fun q => k (.left q)) (fun _ ih k => ih fun q => k (.right q)) p
theorem Path.force_eq {β : Type} (p : Path) : ∀ k : Path → β, p.force k = k p := by
  induction p with
  | here => intro k; rfl
  | left p ih => intro k; exact ih _
  | right p ih => intro k; exact ih _

def Tree.getP {α : Type} (p : Path) : Tree α → Option α :=
  Path.rec (motive := fun _ => Tree α → Option α)
    (fun t => Tree.rec (motive := fun _ => Option α) none (fun _ v _ _ _ => v) t)
    (fun _ ih t => Tree.rec (motive := fun _ => Option α) none (fun l _ _ _ _ => ih l) t)
    (fun _ ih t => Tree.rec (motive := fun _ => Option α) none (fun _ _ r _ _ => ih r) t) p

def Tree.putP {α : Type} (p : Path) : α → Tree α → Tree α :=
  Path.rec (motive := fun _ => α → Tree α → Tree α)
    (fun x t => Tree.rec (motive := fun _ => Tree α) (.node .leaf (some x) .leaf) (fun l _ r _ _ => .node l (some x) r) t)
    (fun _ ih x t => Tree.rec (motive := fun _ => Tree α) (.node (ih x .leaf) none .leaf) (fun l v r _ _ => .node (ih x l) v r) t)
    (fun _ ih x t => Tree.rec (motive := fun _ => Tree α) (.node .leaf none (ih x .leaf)) (fun l v r _ _ => .node l v (ih x r)) t) p

theorem pathF_succ (f k : Nat) : pathF (f + 1) (k + 1) = match Nat.beq (k % 2) 0 with | true => .left (pathF f (k / 2)) | false => .right (pathF f (k / 2)) := by
  show Bool.rec (motive := fun _ => Path) (.right (pathF f (k / 2))) (.left (pathF f (k / 2))) (Nat.beq (k % 2) 0) = _
  cases Nat.beq (k % 2) 0 <;> rfl

theorem getP_pathF {α : Type} : ∀ (f n : Nat) (t : Tree α), n < f → Tree.getP (pathF f n) t = t.get n := by
  intro f
  induction f with
  | zero => intro n t h; omega
  | succ f ih =>
    intro n t h
    cases n with
    | zero => cases t <;> rfl
    | succ k =>
      have hk : k / 2 < f := by omega
      rw [pathF_succ]
      cases t with
      | leaf => cases Nat.beq (k % 2) 0 <;> rfl
      | node l v r =>
        rw [Tree.get_succ]
        cases Nat.beq (k % 2) 0 with
        | true => exact ih (k / 2) l hk
        | false => exact ih (k / 2) r hk

theorem putP_pathF {α : Type} : ∀ (f n : Nat) (x : α) (t : Tree α), n < f → Tree.putP (pathF f n) x t = Tree.setF f t n (some x) := by
  intro f
  induction f with
  | zero => intro n x t h; omega
  | succ f ih =>
    intro n x t h
    cases n with
    | zero => cases t <;> rfl
    | succ k =>
      have hk : k / 2 < f := by omega
      rw [pathF_succ]
      cases t with
      | leaf =>
        rw [Tree.setF_leafS]
        cases Nat.beq (k % 2) 0 with
        | true => exact congrArg (fun q => Tree.node q none .leaf) (ih (k / 2) x .leaf hk)
        | false => exact congrArg (fun q => Tree.node .leaf none q) (ih (k / 2) x .leaf hk)
      | node l v r =>
        rw [Tree.setF_nodeS]
        cases Nat.beq (k % 2) 0 with
        | true => exact congrArg (fun q => Tree.node q v r) (ih (k / 2) x l hk)
        | false => exact congrArg (fun q => Tree.node l v q) (ih (k / 2) x r hk)

theorem getP_of {α : Type} (n : Nat) (t : Tree α) : Tree.getP (pathOf n) t = t.get n := getP_pathF (n + 1) n t (Nat.lt_succ_self n)
theorem putP_of {α : Type} (n : Nat) (x : α) (t : Tree α) : Tree.putP (pathOf n) x t = t.put n x := putP_pathF (n + 1) n x t (Nat.lt_succ_self n)

/-! ### Lists, by their recursors -/
def nthR {α : Type} (l : List α) : Nat → Option α :=
  List.rec (motive := fun _ => Nat → Option α) (fun _ => none) (fun x _ ih n => Nat.rec (motive := fun _ => Option α) (some x) (fun k _ => ih k) n) l
def dropR {α : Type} (l : List α) : Nat → List α :=
  List.rec (motive := fun _ => Nat → List α) (fun _ => []) (fun x tl ih n => Nat.rec (motive := fun _ => List α) (x :: tl) (fun k _ => ih k) n) l
def takeR {α : Type} (l : List α) : Nat → List α :=
  List.rec (motive := fun _ => Nat → List α) (fun _ => []) (fun x _ ih n => Nat.rec (motive := fun _ => List α) [] (fun k _ => x :: ih k) n) l
def setR {α : Type} (v : α) (l : List α) : Nat → List α :=
  List.rec (motive := fun _ => Nat → List α) (fun _ => []) (fun x tl ih n => Nat.rec (motive := fun _ => List α) (v :: tl) (fun k _ => x :: ih k) n) l
def lenR {α : Type} (l : List α) : Nat := List.rec (motive := fun _ => Nat) 0 (fun _ _ ih => Nat.succ ih) l
def geLen {α : Type} (l : List α) : Nat → Bool :=
  List.rec (motive := fun _ => Nat → Bool) (fun n => Nat.rec (motive := fun _ => Bool) true (fun _ _ => false) n) (fun _ _ ih n => Nat.rec (motive := fun _ => Bool) true (fun k _ => ih k) n) l

theorem nthR_eq {α : Type} : ∀ (l : List α) (n : Nat), nthR l n = l[n]? := by
  intro l
  induction l with
  | nil => intro n; rfl
  | cons x tl ih =>
    intro n
    cases n with
    | zero => rfl
    | succ k => exact (ih k).trans (List.getElem?_cons_succ).symm
theorem dropR_eq {α : Type} : ∀ (l : List α) (n : Nat), dropR l n = l.drop n := by
  intro l
  induction l with
  | nil => intro n; exact (List.drop_nil).symm
  | cons x tl ih =>
    intro n
    cases n with
    | zero => rfl
    | succ k => exact ih k
theorem takeR_eq {α : Type} : ∀ (l : List α) (n : Nat), takeR l n = l.take n := by
  intro l
  induction l with
  | nil => intro n; exact (List.take_nil).symm
  | cons x tl ih =>
    intro n
    cases n with
    | zero => rfl
    | succ k => exact congrArg (x :: ·) (ih k)
theorem setR_eq (v : AVal) : ∀ (l : List AVal) (n : Nat), n < l.length → setR v l n = over l n [v] := by
  intro l
  induction l with
  | nil => intro n h; cases h
  | cons x tl ih =>
    intro n h
    cases n with
    | zero => rfl
    | succ k =>
      have h' : k < tl.length := Nat.lt_of_succ_lt_succ h
      exact (congrArg (x :: ·) (ih k h')).trans rfl
theorem lenR_eq {α : Type} : ∀ l : List α, lenR l = l.length := by
  intro l
  induction l with
  | nil => rfl
  | cons x tl ih => exact congrArg Nat.succ ih
theorem geLen_eq {α : Type} : ∀ (l : List α) (n : Nat), geLen l n = Nat.ble n l.length := by
  intro l
  induction l with
  | nil => intro n; cases n <;> rfl
  | cons x tl ih =>
    intro n
    cases n with
    | zero => rfl
    | succ k => exact ih k

/-! ### Boxes -/
structure BE where
  f : Tree AVal → AVal
structure BL where
  f : Tree AVal → List AVal
structure BP where
  f : Tree AVal → Option AVal
structure BR where
  f : Tree AVal → (Nat → Option ABlk) → Option AVal
structure BW where
  f : Tree AVal → AMem → Res
structure BO where
  f : Tree AVal → AMem → Out AVal
structure BT where
  f : Tree AVal → AMem → Out (Tree AVal)
structure BC where
  f : Tree AVal → AMem → Out (Ex × Tree AVal)
structure BF where
  f : List AVal → AMem → Out AVal
structure BD where
  f : Nat → DS → Except String DS

def cE (T : Tab) (x : Operand) : BE :=
  match x with
  | .tmp i => (pathOf i).force fun p => ⟨fun t => Option.rec (motive := fun _ => AVal) .any (fun v => v) (Tree.getP p t)⟩
  | .const v => ⟨fun _ => absV v⟩
  | .global g => match T.glob g with
    | true => ⟨fun _ => .ptr g 0⟩
    | false => ⟨fun _ => .any⟩
  | .func f => ⟨fun _ => .func (.func f) [] []⟩

theorem cE_eq (T : Tab) (x : Operand) (t : Tree AVal) : (cE T x).f t = ev T t x := by
  cases x with
  | tmp i => simp only [cE, ev, Path.force_eq, getP_of]; cases t.get i <;> rfl
  | const v => rfl
  | global g => simp only [cE, ev]; cases T.glob g <;> rfl
  | func f => rfl

def cL (T : Tab) : List Operand → BL
  | [] => ⟨fun _ => []⟩
  | x :: r => ⟨fun t => (cE T x).f t :: (cL T r).f t⟩
theorem cL_eq (T : Tab) (t : Tree AVal) : ∀ l : List Operand, (cL T l).f t = l.map (ev T t) := by
  intro l
  induction l with
  | nil => rfl
  | cons x r ih => simp only [cL, cE_eq, ih, List.map_cons]
theorem cL_list (T : Tab) (t : Tree AVal) (xs : Array Operand) : (cL T xs.toList).f t = evList T t xs := cL_eq T t xs.toList

/-- A string's part. -/
def cutS (s : List UInt8) (lo : Option AVal) (hi : Option AVal) : Option AVal :=
  match hi with
  | none => match lo with
    | some (.int _ (.ofNat l)) => match geLen s l with
      | true => some (.str (dropR s l))
      | false => none
    | some _ => none
    | none => some (.str s)
  | some (.int _ (.ofNat h)) => match geLen s h with
    | true => match lo with
      | some (.int _ (.ofNat l)) => match Nat.ble l h with
        | true => some (.str (takeR (dropR s l) (h - l)))
        | false => none
      | some _ => none
      | none => some (.str (takeR s h))
    | false => none
  | some _ => none

theorem cutS_eq {T : Tab} {u : TypeId} (h : T.und u = some .string) (s : List UInt8) (lo hi : Option AVal) : cutS s lo hi = sliceOp T u (.str s) lo hi none := by
  unfold sliceOp
  rw [h]
  simp only [cutS, bounds2, boundOr]
  cases hi with
  | none =>
    cases lo with
    | none => simp
    | some x =>
      simp only [bound]
      cases x with
      | int k i => cases i with
        | ofNat l =>
          simp only [geLen_eq]
          cases Nat.ble l s.length with
          | true => simp [dropR_eq]
          | false => rfl
        | negSucc l => rfl
      | _ => rfl
  | some y =>
    simp only [bound]
    cases y with
    | int k i => cases i with
      | ofNat n =>
        simp only [geLen_eq]
        cases Nat.ble n s.length with
        | true =>
          cases lo with
          | none => simp [takeR_eq]
          | some x =>
            simp only
            cases x with
            | int k i => cases i with
              | ofNat l =>
                simp only
                cases Nat.ble l n with
                | true => simp [takeR_eq, dropR_eq, List.drop_take]
                | false => rfl
              | negSucc l => rfl
            | _ => rfl
        | false => rfl
      | negSucc l => rfl
    | _ => rfl

/-- A string's byte. -/
def byteS (s : List UInt8) (i : Int) : Option AVal :=
  match i with
  | .ofNat n => match nthR s n with
    | some b => some (.int .u8 (.ofNat b.toNat))
    | none => none
  | .negSucc _ => none

def isStr (T : Tab) (u : TypeId) : Bool :=
  match T.und u with
  | some .string => true
  | _ => false
theorem isStr_spec {T : Tab} {u : TypeId} (h : isStr T u = true) : T.und u = some .string := by
  unfold isStr at h
  split at h
  · assumption
  · cases h

theorem byteS_eq {T : Tab} {u : TypeId} (h : T.und u = some .string) (s : List UInt8) (k : IntKind) (i : Int) : byteS s i = indexOp T u (.str s) (.int k i) := by
  unfold indexOp
  rw [h]
  simp only
  cases i with
  | ofNat n =>
    rw [if_pos (show (0 : Int) ≤ Int.ofNat n from Int.natCast_nonneg n)]
    simp only [byteS, nthR_eq]
    rfl
  | negSucc n => rw [if_neg (by omega)]; rfl

/-- The place of a field. -/
def fieldAt (T : Tab) (s : TypeId) (f : Nat) : Option Nat :=
  match T.und s with
  | some (.struct fs) => match fs[f]? with
    | some fd => match T.size fd.type with
      | some (_ + 1) => some fd.offset
      | _ => none
    | none => none
  | _ => none
theorem fieldAt_eq (T : Tab) (s : TypeId) (f : Nat) (x : AVal) : fieldAddrOp T s x f = match fieldAt T s f, x with
    | some n, .ptr b o => some (.ptr b (o + n))
    | _, _ => none := by
  unfold fieldAddrOp fieldAt
  cases T.und s with
  | none => cases x <;> rfl
  | some d =>
    cases d with
    | struct fs =>
      cases x with
      | ptr b o =>
        simp only
        cases fs[f]? with
        | none => rfl
        | some fd =>
          simp only
          cases T.size fd.type with
          | none => rfl
          | some n => cases n <;> rfl
      | _ =>
        simp only
        cases fs[f]? with
        | none => rfl
        | some fd =>
          simp only
          cases T.size fd.type with
          | none => rfl
          | some n => cases n <;> rfl
    | _ => cases x <;> rfl

def cP (T : Tab) (o : Op) : BP :=
  match o with
  | .move x => ⟨fun t => some ((cE T x).f t)⟩
  | .assign x => ⟨fun t => some ((cE T x).f t)⟩
  | .binOp op xt x y _ => ⟨fun t => binop T op xt x y ((cE T x).f t) ((cE T y).f t)⟩
  | .unOp op _ x => ⟨fun t => unop op ((cE T x).f t)⟩
  | .convert a b x => ⟨fun t => convOp T a b ((cE T x).f t)⟩
  | .fieldAddr s x f => match fieldAt T s f with
    | some n => ⟨fun t => match (cE T x).f t with
      | .ptr b o => some (.ptr b (o + n))
      | _ => none⟩
    | none => ⟨fun _ => none⟩
  | .field s x f => ⟨fun t => fieldOp T s ((cE T x).f t) f⟩
  | .indexAddr xt x i => ⟨fun t => indexAddrOp T xt ((cE T x).f t) ((cE T i).f t)⟩
  | .index xt x i => match isStr T xt with
    | true => ⟨fun t => match (cE T x).f t, (cE T i).f t with
      | .str s, .int _ n => byteS s n
      | a, b => indexOp T xt a b⟩
    | false => ⟨fun t => indexOp T xt ((cE T x).f t) ((cE T i).f t)⟩
  | .slice xt x lo hi none => match isStr T xt with
    | true => ⟨fun t => match (cE T x).f t with
      | .str s => cutS s (lo.map (cE T · |>.f t)) (hi.map (cE T · |>.f t))
      | a => sliceOp T xt a (lo.map (ev T t)) (hi.map (ev T t)) none⟩
    | false => ⟨fun t => sliceOp T xt ((cE T x).f t) (lo.map (cE T · |>.f t)) (hi.map (cE T · |>.f t)) none⟩
  | .extract x i => ⟨fun t => match (cE T x).f t with | .tuple vs => nthR vs i | _ => none⟩
  | o => ⟨fun t => evP T t o⟩

theorem cE_map (T : Tab) (t : Tree AVal) (o : Option Operand) : o.map (cE T · |>.f t) = o.map (ev T t) := by
  cases o with
  | none => rfl
  | some x => exact congrArg some (cE_eq T x t)

theorem cP_eq (T : Tab) (o : Op) (t : Tree AVal) : (cP T o).f t = evP T t o := by
  cases o with
  | extract x i => simp only [cP, evP, cE_eq]; cases ev T t x <;> simp only [nthR_eq]
  | fieldAddr s x f =>
    simp only [cP, evP, fieldAt_eq]
    cases fieldAt T s f with
    | none => rfl
    | some n => simp only [cE_eq]; cases ev T t x <;> rfl
  | index xt x i =>
    simp only [cP, evP]
    cases h : isStr T xt with
    | false => simp only [cE_eq]
    | true =>
      simp only [cE_eq]
      split
      · rename_i s k n h1 h2
        rw [h1, h2]
        exact byteS_eq (isStr_spec h) s k n
      · rfl
  | slice xt x lo hi mx =>
    cases mx with
    | some m => rfl
    | none =>
      simp only [cP, evP]
      cases h : isStr T xt with
      | false => simp only [cE_eq]; rfl
      | true =>
        simp only [cE_eq]
        split
        · rename_i s h1
          rw [h1]
          exact cutS_eq (isStr_spec h) s _ _
        · rfl
  | _ => simp only [cP, evP, cE_eq]

/-- A value of one cell. -/
def oneAt (T : Tab) (u : TypeId) : Bool :=
  match T.isAgg u with
  | some false => true
  | _ => false
theorem oneAt_spec {T : Tab} {u : TypeId} (h : oneAt T u = true) : T.isAgg u = some false := by
  unfold oneAt at h
  split at h
  · assumption
  · cases h

def cR (T : Tab) (o : Op) : BR :=
  match o with
  | .load u x => match oneAt T u with
    | true => ⟨fun t g => match (cE T x).f t with
      | .ptr b o => match g b with
        | some (.cells _ vs _ _ _) => nthR vs o
        | _ => none
      | _ => none⟩
    | false => ⟨fun t g => loadOp T g u ((cE T x).f t)⟩
  | o => ⟨fun t g => evR T t g o⟩

theorem cR_eq (T : Tab) (o : Op) (t : Tree AVal) (g : Nat → Option ABlk) : (cR T o).f t g = evR T t g o := by
  cases o with
  | load u x =>
    simp only [cR, evR]
    cases h : oneAt T u with
    | false => simp only [cE_eq]
    | true =>
      simp only [cE_eq, loadOp, oneAt_spec h, nthR_eq]
      cases ev T t x <;> rfl
  | _ => rfl

/-- Storing a value of one cell. -/
def storeOne (m : AMem) (x v : AVal) : Res :=
  match x with
  | .ptr b o => match m.get b with
    | some (.cells e vs false frz wh) => match Nat.ble frz o with
      | true => match geLen vs (o + 1) with
        | true => .val .any (m.set b (.cells e (setR v vs o) false frz wh))
        | false => .fail
      | false => .fail
    | _ => .fail
  | _ => .fail

def sizeOne (T : Tab) (u : TypeId) : Bool :=
  match T.size u with
  | some 1 => true
  | _ => false
theorem sizeOne_spec {T : Tab} {u : TypeId} (h : sizeOne T u = true) : T.size u = some 1 := by
  unfold sizeOne at h
  split at h
  · assumption
  · cases h

theorem storeOne_eq {T : Tab} {u : TypeId} (h : T.size u = some 1) (m : AMem) (x v : AVal) (hv : v.one = true) : storeOne m x v = storeOp T m u x v := by
  have hc : v.cells = [v] := by cases v <;> first | rfl | cases hv
  unfold storeOne storeOp
  cases x with
  | ptr b o =>
    have key : (match T.size u, m.get b with
      | some n, some (.cells e vs false frz wh) =>
        match Nat.beq v.cells.length n && v.cells.all AVal.one && Nat.ble frz o && Nat.ble (o + n) vs.length with
        | true => Res.val .any (m.set b (.cells e (over vs o v.cells) false frz wh))
        | false => .fail
      | _, _ => .fail) = (match m.get b with
      | some (.cells e vs false frz wh) => match Nat.ble frz o with
        | true => match geLen vs (o + 1) with
          | true => .val .any (m.set b (.cells e (setR v vs o) false frz wh))
          | false => .fail
        | false => .fail
      | _ => .fail) := by
      rw [h, hc]
      cases m.get b with
      | none => rfl
      | some k => cases k with
        | cells e vs ro frz wh => cases ro with
          | true => rfl
          | false =>
            simp only [List.all_cons, hv, List.all_nil, geLen_eq, List.length_cons, List.length_nil]
            cases Nat.ble frz o with
            | false => rfl
            | true =>
              cases hb : Nat.ble (o + 1) vs.length with
              | false => simp
              | true => simp [setR_eq v vs o (Nat.le_of_ble_eq_true hb)]
        | map es => rfl
        | iter s p => rfl
    refine key.symm.trans ?_
    cases v <;> first | rfl | cases hv
  | _ => rfl

def cW (T : Tab) (o : Op) : BW :=
  match o with
  | .store u a x => match sizeOne T u with
    | true => ⟨fun t m => match ((cE T x).f t).one with
      | true => storeOne m ((cE T a).f t) ((cE T x).f t)
      | false => storeOp T m u ((cE T a).f t) ((cE T x).f t)⟩
    | false => ⟨fun t m => storeOp T m u ((cE T a).f t) ((cE T x).f t)⟩
  | o => ⟨fun t m => evW T t m o⟩

theorem cW_eq (T : Tab) (o : Op) (t : Tree AVal) (m : AMem) : (cW T o).f t m = evW T t m o := by
  cases o with
  | store u a x =>
    simp only [cW, evW]
    cases h : sizeOne T u with
    | false => simp only [cE_eq]
    | true =>
      simp only [cE_eq]
      cases hv : (ev T t x).one with
      | true => exact storeOne_eq (sizeOne_spec h) m _ _ hv
      | false => rfl
  | _ => rfl

/-- A direct call of a function. -/
def callOf (o : Op) : Option (FuncId × Array Operand) :=
  match o with
  | .call c => match c.callee with
    | .value x => match x with
      | .func g => some (g, c.args)
      | _ => none
    | _ => none
  | _ => none

/-- The length of a string. -/
def lenOf (T : Tab) (o : Op) : Option Operand :=
  match o with
  | .call c => match c.callee with
    | .builtin .len => match c.args.toList, c.argTypes[0]? with
      | x :: _, some u => match isStr T u with
        | true => some x
        | false => none
      | _, _ => none
    | _ => none
  | _ => none

def cOp (T : Tab) (callF : FuncId → List AVal → AMem → Out AVal) (o : Op) : BO :=
  match callOf o with
  | some (g, args) => ⟨fun t m => callF g ((cL T args.toList).f t) m⟩
  | none => match kindOf T o with
    | .p => match lenOf T o with
      | some x => ⟨fun t m => match (cE T x).f t with
        | .str s => .ok (.int .i64 (.ofNat (lenR s))) m
        | _ => match evP T t o with | some v => .ok v m | none => .fail ""⟩
      | none => ⟨fun t m => Option.rec (motive := fun _ => Out AVal) (.fail "") (fun v => .ok v m) ((cP T o).f t)⟩
    | .r => ⟨fun t m => Option.rec (motive := fun _ => Out AVal) (.fail "") (fun v => .ok v m) ((cR T o).f t m.get)⟩
    | .a => ⟨fun t m => match evA T t m.next o with | some (v, k) => .ok v (m.new k) | none => .fail ""⟩
    | .w => ⟨fun t m => match (cW T o).f t m with
      | .val v m' => .ok v m'
      | .call f args => callF f args m
      | .pan v => .pan v m
      | .fail => .fail ""⟩

theorem callOf_spec {o : Op} {g : FuncId} {args : Array Operand} (h : callOf o = some (g, args)) : ∃ ts, o = .call ⟨.value (.func g), args, ts⟩ := by
  unfold callOf at h
  split at h
  · rename_i c
    obtain ⟨callee, as, ts⟩ := c
    split at h
    · rename_i x hc
      simp only at hc
      subst hc
      split at h
      · cases h; exact ⟨ts, rfl⟩
      · cases h
    · cases h
  · cases h

theorem lenOf_spec {T : Tab} {o : Op} {x : Operand} (h : lenOf T o = some x) (t : Tree AVal) {s : List UInt8} (hs : ev T t x = .str s) : evP T t o = some (.int .i64 (.ofNat (lenR s))) := by
  unfold lenOf at h
  split at h
  · rename_i c
    split at h
    · rename_i hc
      split at h
      · rename_i y rest u h1 h2
        split at h
        · rename_i hu
          cases h
          simp only [evP, hc, evList, h1, List.map_cons, hs, pureBuiltin, h2, lenOp, isStr_spec hu, lenR_eq]
          rfl
        · cases h
      · cases h
    · cases h
  · cases h

theorem cOp_eq (T : Tab) (callF : FuncId → List AVal → AMem → Out AVal) (o : Op) (t : Tree AVal) (m : AMem) : (cOp T callF o).f t m = evOne T callF t m o := by
  unfold cOp
  cases hc : callOf o with
  | some x =>
    obtain ⟨g, args⟩ := x
    obtain ⟨ts, rfl⟩ := callOf_spec hc
    simp only [evOne, kindOf, evW, ev, List.nil_append, List.append_nil, cL_list]
  | none =>
    simp only
    unfold evOne
    cases kindOf T o with
    | p =>
      simp only
      cases hl : lenOf T o with
      | none => simp only [cP_eq]; cases evP T t o <;> rfl
      | some x =>
        simp only [cE_eq]
        split
        · rename_i s hs
          rw [lenOf_spec hl t hs]
        · rfl
    | r => simp only [cR_eq]; cases evR T t m.get o <;> rfl
    | a => rfl
    | w => simp only [cW_eq]; cases evW T t m o <;> rfl

def posOr (pos w : String) : String :=
  match w with
  | "" => pos
  | w => w

theorem posOr_fail {pos w : String} {A : AVal → AMem → Out (Tree AVal)} : (Out.fail (posOr pos w) : Out (Tree AVal)) = match (Out.fail w : Out AVal) with
    | .ok v m' => A v m'
    | .pan v m' => .pan v m'
    | .fail "" => .fail pos
    | .fail w => .fail w := by
  by_cases h : w = ""
  · subst h; rfl
  · simp [posOr]

/-- An operation, its place, and what follows. -/
def cStep (n : Nat) (op : BO) (d : Option Nat) (pos : String) (next : BT) : BT :=
  match d with
  | none => ⟨fun t m => Out.rec (motive := fun _ => Out (Tree AVal)) (fun _ m' => next.f t m') (fun v m' => .pan v m') (fun w => .fail (posOr pos w)) (op.f t m)⟩
  | some d => match Nat.blt d n with
    | true => (pathOf d).force fun p => ⟨fun t m => Out.rec (motive := fun _ => Out (Tree AVal)) (fun v m' => next.f (Tree.putP p v t) m') (fun v m' => .pan v m') (fun w => .fail (posOr pos w)) (op.f t m)⟩
    | false => ⟨fun t m => Out.rec (motive := fun _ => Out (Tree AVal)) (fun _ _ => .fail pos) (fun v m' => .pan v m') (fun w => .fail (posOr pos w)) (op.f t m)⟩

def cOps (T : Tab) (callF : FuncId → List AVal → AMem → Out AVal) (n : Nat) (all : Array Oper) : List Oper → BT
  | [] => ⟨fun t m => .ok t m⟩
  | o :: rest => match o.guard with
    | none => cStep n (cOp T callF o.op) o.dst o.pos (cOps T callF n all rest)
    | some _ => ⟨fun t m => match wantedOp all t o with
      | none => .fail o.pos
      | some false => match putDst n t o.dst (.tuple []) with
        | some t' => (cOps T callF n all rest).f t' m
        | none => .fail o.pos
      | some true => (cStep n (cOp T callF o.op) o.dst o.pos (cOps T callF n all rest)).f t m⟩

theorem cStep_eq {T : Tab} {callF : FuncId → List AVal → AMem → Out AVal} {n : Nat} {all : Array Oper} {o : Oper} {rest : List Oper} (ih : ∀ t m, (cOps T callF n all rest).f t m = evOps T callF n all rest t m) (t : Tree AVal) (m : AMem) :
    (cStep n (cOp T callF o.op) o.dst o.pos (cOps T callF n all rest)).f t m = match evOne T callF t m o.op with
      | .ok v m' => match putDst n t o.dst v with
        | some t' => evOps T callF n all rest t' m'
        | none => .fail o.pos
      | .pan v m' => .pan v m'
      | .fail "" => .fail o.pos
      | .fail w => .fail w := by
  unfold cStep putDst
  cases o.dst with
  | none =>
    simp only [cOp_eq]
    cases evOne T callF t m o.op with
    | ok v m' => exact ih t m'
    | pan v m' => rfl
    | fail w => exact posOr_fail
  | some d =>
    simp only
    cases Nat.blt d n with
    | true =>
      simp only [cOp_eq, Path.force_eq, putP_of]
      cases evOne T callF t m o.op with
      | ok v m' => exact ih (t.put d v) m'
      | pan v m' => rfl
      | fail w => exact posOr_fail
    | false =>
      simp only [cOp_eq]
      cases evOne T callF t m o.op with
      | ok v m' => rfl
      | pan v m' => rfl
      | fail w => exact posOr_fail

theorem cOps_eq (T : Tab) (callF : FuncId → List AVal → AMem → Out AVal) (n : Nat) (all : Array Oper) : ∀ (l : List Oper) (t : Tree AVal) (m : AMem), (cOps T callF n all l).f t m = evOps T callF n all l t m := by
  intro l
  induction l with
  | nil => intro t m; rfl
  | cons o rest ih =>
    intro t m
    simp only [cOps, evOps]
    cases hg : o.guard with
    | none =>
      have hw : wantedOp all t o = some true := by simp [wantedOp, hg]
      simp only [hw]
      exact cStep_eq ih t m
    | some g =>
      simp only
      cases wantedOp all t o with
      | none => rfl
      | some b => cases b with
        | false =>
          simp only
          cases putDst n t o.dst (.tuple []) with
          | none => rfl
          | some t' => exact ih t' m
        | true => exact cStep_eq ih t m

/-! ### Drawn regions -/
def cWant (T : Tab) (callF : FuncId → List AVal → AMem → Out AVal) (n p i : Nat) (o : Oper) : BD :=
  match kindOf T o.op with
  | .p => ⟨fun _ ds => match (cP T o.op).f ds.t with
    | none => .error o.pos
    | some v => match putDst n ds.t o.dst v with
      | none => .error o.pos
      | some t' => .ok { ds with t := t' }⟩
  | .r => ⟨fun base ds => match (cR T o.op).f ds.t (view base ds.st.m (Nat.testBit (diff p ds.st.abs)) ds.made).get with
    | none => .error o.pos
    | some v => match putDst n ds.t o.dst v with
      | none => .error o.pos
      | some t' => .ok { ds with t := t', reads := ⟨i, p, o.op, ds.t, v, ds.old.length⟩ :: ds.reads }⟩
  | .a => ⟨fun base ds => match evA T ds.t (base + i) o.op with
    | none => .error o.pos
    | some (v, b) => match putDst n ds.t o.dst v with
      | none => .error o.pos
      | some t' => .ok { ds with t := t', made := (i, b) :: ds.made }⟩
  | .w => ⟨fun base ds => match ds.pan with
    | some _ => .error o.pos
    | none => match Nat.beq (Nat.land p ds.st.wm) ds.st.wm with
      | false => .error o.pos
      | true => match (cOp T callF o.op).f ds.t (view base ds.st.m (Nat.testBit (diff p ds.st.abs)) ds.made) with
        | .ok v m' => match putDst n ds.t o.dst v with
          | none => .error o.pos
          | some t' => .ok { ds with t := t', st := ⟨m', Nat.lor p ds.st.abs, Nat.lor (2 ^ i) ds.st.wm⟩, old := ds.st :: ds.old }
        | .pan v m' => .ok { ds with pan := some (i, v, m') }
        | .fail "" => .error o.pos
        | .fail w => .error w⟩

theorem cWant_eq (T : Tab) (callF : FuncId → List AVal → AMem → Out AVal) (n base p i : Nat) (o : Oper) (ds : DS) : (cWant T callF n p i o).f base ds = drawWant T callF n base p i o ds := by
  unfold cWant drawWant
  cases kindOf T o.op with
  | p => simp only [cP_eq]; rfl
  | r => simp only [cR_eq]; rfl
  | a => rfl
  | w => simp only [cOp_eq]; rfl

def cDStep (T : Tab) (callF : FuncId → List AVal → AMem → Out AVal) (n : Nat) (all : Array Oper) (pre who : Tree Nat) (i : Nat) (o : Oper) : BD :=
  match pre.get i with
  | none => ⟨fun _ _ => .error o.pos⟩
  | some p => match looksOk pre who i p (o.looksAt all) with
    | false => ⟨fun _ _ => .error o.pos⟩
    | true => match o.guard with
      | none => ⟨fun base ds => match deadBy ds.pan p with
        | true => .ok ds
        | false => (cWant T callF n p i o).f base ds⟩
      | some _ => ⟨fun base ds => match deadBy ds.pan p with
        | true => .ok ds
        | false => match wantedOp all ds.t o with
          | none => .error o.pos
          | some false => match putDst n ds.t o.dst (.tuple []) with
            | none => .error o.pos
            | some t' => .ok { ds with t := t' }
          | some true => (cWant T callF n p i o).f base ds⟩

theorem cDStep_eq (T : Tab) (callF : FuncId → List AVal → AMem → Out AVal) (n : Nat) (all : Array Oper) (base : Nat) (pre who : Tree Nat) (i : Nat) (o : Oper) (ds : DS) : (cDStep T callF n all pre who i o).f base ds = drawStep T callF n all base pre who i o ds := by
  unfold cDStep drawStep
  cases pre.get i with
  | none => rfl
  | some p =>
    simp only
    cases looksOk pre who i p (o.looksAt all) with
    | false => rfl
    | true =>
      simp only
      cases hg : o.guard with
      | none =>
        have hw : wantedOp all ds.t o = some true := by simp [wantedOp, hg]
        simp only [hw, cWant_eq]
        rfl
      | some g => simp only [cWant_eq]; rfl

def cDOps (T : Tab) (callF : FuncId → List AVal → AMem → Out AVal) (n : Nat) (all : Array Oper) (pre who : Tree Nat) : List Oper → Nat → BD
  | [], _ => ⟨fun _ ds => .ok ds⟩
  | o :: rest, i => ⟨fun base ds => match (cDStep T callF n all pre who i o).f base ds with
    | .ok ds' => (cDOps T callF n all pre who rest (i + 1)).f base ds'
    | .error w => .error w⟩

theorem cDOps_eq (T : Tab) (callF : FuncId → List AVal → AMem → Out AVal) (n : Nat) (all : Array Oper) (base : Nat) (pre who : Tree Nat) : ∀ (l : List Oper) (i : Nat) (ds : DS), (cDOps T callF n all pre who l i).f base ds = drawOps T callF n all base pre who l i ds := by
  intro l
  induction l with
  | nil => intros; rfl
  | cons o rest ih =>
    intro i ds
    simp only [cDOps, drawOps, cDStep_eq]
    cases drawStep T callF n all base pre who i o ds with
    | ok ds' => exact ih (i + 1) ds'
    | error w => rfl

def cDraw (T : Tab) (callF : FuncId → List AVal → AMem → Out AVal) (n : Nat) (ops : Array Oper) : BT :=
  match masks ops.toList 0 .leaf, whoOf ops.toList 0 .leaf with
  | some pre, some who => ⟨fun t m => match (cDOps T callF n ops pre who ops.toList 0).f m.next ⟨t, [], ⟨⟨m.next + ops.size, m.tree⟩, 0, 0⟩, [], [], none⟩ with
    | .error w => .fail w
    | .ok ds => match stagesOk T m.next ds.made ds.st.wm ds.reads (ds.st :: ds.old) with
      | false => .fail "read"
      | true => match ds.pan with
        | some (_, v, m') => .pan v m'
        | none => .ok ds.t (view m.next ds.st.m (Nat.testBit (diff (2 ^ ops.size - 1) ds.st.abs)) ds.made)⟩
  | _, _ => ⟨fun _ _ => .fail "order"⟩

theorem cDraw_eq (T : Tab) (callF : FuncId → List AVal → AMem → Out AVal) (n : Nat) (ops : Array Oper) (t : Tree AVal) (m : AMem) : (cDraw T callF n ops).f t m = evDraw T callF n ops t m := by
  unfold cDraw evDraw
  cases masks ops.toList 0 .leaf with
  | none => rfl
  | some pre =>
    cases whoOf ops.toList 0 .leaf with
    | none => rfl
    | some who => simp only [cDOps_eq]; rfl

def cRegion (T : Tab) (callF : FuncId → List AVal → AMem → Out AVal) (n : Nat) (ops : Array Oper) (draw : Bool) : BT :=
  match draw with
  | false => cOps T callF n ops ops.toList
  | true => cDraw T callF n ops

theorem cRegion_eq (T : Tab) (callF : FuncId → List AVal → AMem → Out AVal) (n : Nat) (ops : Array Oper) (draw : Bool) (t : Tree AVal) (m : AMem) : (cRegion T callF n ops draw).f t m = evRegion T callF n ops draw t m := by
  cases draw with
  | false => exact cOps_eq T callF n ops ops.toList t m
  | true => exact cDraw_eq T callF n ops t m

def regionOf (c : Code) : Option (Array Oper × Bool) :=
  match c with
  | .region _ ops draw => some (ops, draw)
  | _ => none

theorem regionOf_spec {c : Code} {x : Array Oper × Bool} (h : regionOf c = some x) : ∃ id, c = .region id x.1 x.2 := by
  cases c <;> simp only [regionOf] at h
  case region id ops draw => cases h; exact ⟨id, rfl⟩
  all_goals cases h

def cCode (T : Tab) (callF : FuncId → List AVal → AMem → Out AVal) (fuel n : Nat) : Code → BC
  | .skip => ⟨fun t m => .ok (.normal, t) m⟩
  | .region _ ops draw => ⟨fun t m => Out.rec (motive := fun _ => Out (Ex × Tree AVal)) (fun t' m' => .ok (.normal, t') m') (fun v m' => .pan v m') (fun w => .fail w) ((cRegion T callF n ops draw).f t m)⟩
  | .seq a b => match regionOf a with
    | some (ops, draw) => ⟨fun t m => Out.rec (motive := fun _ => Out (Ex × Tree AVal)) (fun t' m' => (cCode T callF fuel n b).f t' m') (fun v m' => .pan v m') (fun w => .fail w) ((cRegion T callF n ops draw).f t m)⟩
    | none => ⟨fun t m => match (cCode T callF fuel n a).f t m with
      | .ok (.normal, t') m' => (cCode T callF fuel n b).f t' m'
      | r => r⟩
  | .cond c x y => ⟨fun t m => match (cE T c).f t with
    | .bool true => (cCode T callF fuel n x).f t m
    | .bool false => (cCode T callF fuel n y).f t m
    | _ => .fail "cond"⟩
  | .block id c => ⟨fun t m => match (cCode T callF fuel n c).f t m with
    | .ok (.exit id', t') m' => if id' = id then .ok (.normal, t') m' else .ok (.exit id', t') m'
    | r => r⟩
  | .loop c => ⟨fun t m => iter (fun t m => (cCode T callF fuel n c).f t m) fuel t m⟩
  | .exit id => ⟨fun t m => .ok (.exit id, t) m⟩
  | .ret => ⟨fun t m => .ok (.ret, t) m⟩
  | _ => ⟨fun _ _ => .fail "code"⟩

theorem cCode_eq (T : Tab) (callF : FuncId → List AVal → AMem → Out AVal) (fuel n : Nat) : ∀ (c : Code) (t : Tree AVal) (m : AMem), (cCode T callF fuel n c).f t m = evCode T callF fuel n c t m := by
  intro c
  induction c with
  | skip => intro t m; rfl
  | region id ops draw =>
    intro t m
    simp only [cCode, evCode, cRegion_eq]
    cases evRegion T callF n ops draw t m <;> rfl
  | seq a b iha ihb =>
    intro t m
    cases hr : regionOf a with
    | some x =>
      obtain ⟨ops, draw⟩ := x
      obtain ⟨id, rfl⟩ := regionOf_spec hr
      simp only [cCode, hr, evCode, cRegion_eq]
      cases evRegion T callF n ops draw t m with
      | ok t' m' => exact ihb t' m'
      | pan v m' => rfl
      | fail w => rfl
    | none =>
      simp only [cCode, hr, evCode, iha, ihb]
      cases evCode T callF fuel n a t m with
      | ok z m' => obtain ⟨e, t'⟩ := z; cases e <;> rfl
      | pan v m' => rfl
      | fail w => rfl
  | cond c x y ihx ihy =>
    intro t m
    simp only [cCode, evCode, cE_eq, ihx, ihy]
    cases ev T t c with
    | bool b => cases b <;> rfl
    | _ => rfl
  | block id c ih =>
    intro t m
    simp only [cCode, evCode, ih]
    cases evCode T callF fuel n c t m with
    | ok z m' => obtain ⟨e, t'⟩ := z; cases e <;> rfl
    | pan v m' => rfl
    | fail w => rfl
  | loop c ih =>
    intro t m
    have : (fun t m => (cCode T callF fuel n c).f t m) = evCode T callF fuel n c := by funext t m; exact ih t m
    simp only [cCode, evCode, this]
  | exit id => intro t m; rfl
  | ret => intro t m; rfl
  | _ => intros; rfl

def cBody (T : Tab) (callF : FuncId → List AVal → AMem → Out AVal) (fuel : Nat) (fn : Func) : BF :=
  match fn.body with
  | none => ⟨fun _ _ => .fail "body"⟩
  | some c => ⟨fun args m => match Nat.ble args.length fn.ntmps with
    | false => .fail "args"
    | true => match (cCode T callF fuel fn.ntmps c).f (argTree args) m with
      | .ok (.normal, t) m' | .ok (.ret, t) m' => match resultsOf T t m' fn.results.toList with
        | some vs => .ok (oneResult vs) m'
        | none => .fail "results"
      | .ok _ _ => .fail "exit"
      | .pan v m' => .pan v m'
      | .fail w => .fail w⟩

theorem cBody_eq (T : Tab) (callF : FuncId → List AVal → AMem → Out AVal) (fuel : Nat) (fn : Func) (args : List AVal) (m : AMem) : (cBody T callF fuel fn).f args m = evBody T callF fuel fn args m := by
  unfold cBody evBody
  cases fn.body with
  | none => rfl
  | some c =>
    simp only [cCode_eq]
    cases Nat.ble args.length fn.ntmps with
    | false => rfl
    | true =>
      simp only
      cases evCode T callF fuel fn.ntmps c (argTree args) m with
      | ok z m' => obtain ⟨e, t'⟩ := z; cases e <;> rfl
      | pan v m' => rfl
      | fail w => rfl

def cFn (T : Tab) : Nat → FuncId → BF
  | 0, _ => ⟨fun _ _ => .fail "depth"⟩
  | n + 1, f => match T.spec f with
    | some F => ⟨F⟩
    | none => match T.fn f with
      | some fn => cBody T (fun g args m => (cFn T n g).f args m) n fn
      | none => ⟨fun _ _ => .fail "fn"⟩

theorem cFn_eq (T : Tab) : ∀ (k : Nat) (f : FuncId) (args : List AVal) (m : AMem), (cFn T k f).f args m = evFn T k f args m := by
  intro k
  induction k with
  | zero => intros; rfl
  | succ k ih =>
    intro f args m
    have hc : (fun g args m => (cFn T k g).f args m) = evFn T k := by funext g a m; exact ih g a m
    simp only [cFn, evFn]
    cases T.spec f with
    | some F => rfl
    | none =>
      simp only
      cases T.fn f with
      | some fn => simp only [cBody_eq, hc]
      | none => rfl

/-- The evaluator, made ready. -/
def xFn (T : Tab) (k : Nat) (f : FuncId) (args : List AVal) (m : AMem) : Out AVal := (cFn T k f).f args m
theorem xFn_eq (T : Tab) (k : Nat) (f : FuncId) : xFn T k f = evFn T k f := by
  funext args m
  exact cFn_eq T k f args m
end
end Ev
end Go.Proofs.YtfddpaljmihinaaGreatDoor
