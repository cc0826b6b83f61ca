/-
  An evaluator of the model's code over an abstract memory: its definitions. (Conditions: none; what it answers is tied to the machine in YtfddpaljmihinaaGreatDoorEvRel and the texts behind it.)
-/
import Derived.Control
import Derived.Orders
namespace Go.Proofs.YtfddpaljmihinaaGreatDoor
namespace Ev
open Go
noncomputable section

/-! ### A binary tree with numbers for keys -/
inductive Tree (α : Type) where
  | leaf
  | node (l : Tree α) (v : Option α) (r : Tree α)

noncomputable def Tree.get {α : Type} (t : Tree α) : Nat → Option α :=
  Tree.rec (motive := fun _ => Nat → Option α) (fun _ => none)
    (fun _ v _ gl gr n => Nat.rec (motive := fun _ => Option α) v (fun k _ => Bool.rec (motive := fun _ => Option α) (gr (Nat.div k 2)) (gl (Nat.div k 2)) (Nat.beq (Nat.mod k 2) 0)) n) t

noncomputable def Tree.setF {α : Type} (f : Nat) : Tree α → Nat → Option α → Tree α :=
  Nat.rec (motive := fun _ => Tree α → Nat → Option α → Tree α) (fun t _ _ => t)
    (fun _ ih t n x => Tree.rec (motive := fun _ => Tree α)
      (Nat.rec (motive := fun _ => Tree α) (.node .leaf x .leaf)
        (fun k _ => Bool.rec (motive := fun _ => Tree α) (.node .leaf none (ih .leaf (Nat.div k 2) x)) (.node (ih .leaf (Nat.div k 2) x) none .leaf) (Nat.beq (Nat.mod k 2) 0)) n)
      (fun l v r _ _ => Nat.rec (motive := fun _ => Tree α) (.node l x r)
        (fun k _ => Bool.rec (motive := fun _ => Tree α) (.node l v (ih r (Nat.div k 2) x)) (.node (ih l (Nat.div k 2) x) v r) (Nat.beq (Nat.mod k 2) 0)) n) t) f

def Tree.set {α : Type} (t : Tree α) (n : Nat) (x : Option α) : Tree α := Tree.setF (n + 1) t n x

def Tree.put {α : Type} (t : Tree α) (n : Nat) (x : α) : Tree α := t.set n (some x)

def Tree.ofListFrom {α : Type} : List α → Nat → Tree α → Tree α
  | [], _, t => t
  | x :: xs, n, t => Tree.ofListFrom xs (n + 1) (t.put n x)

def Tree.ofList {α : Type} (l : List α) : Tree α := Tree.ofListFrom l 0 .leaf

/-! ### Abstract values and memory -/
inductive Cap where
  | exact (n : Nat)
  | least (n : Nat)

def Cap.low : Cap → Nat
  | .exact n => n
  | .least n => n

def Cap.less : Cap → Nat → Cap
  | .exact n, k => .exact (n - k)
  | .least n, k => .least (n - k)

inductive AVal where
  | any
  | bool (b : Bool)
  | int (k : IntKind) (n : Int)
  | str (s : List UInt8)
  | nptr
  | ptr (b o : Nat)
  | nslice
  | slice (b o len esz : Nat) (cap : Cap)
  | nmap
  | map (b : Nat)
  | func (fn : Fn) (first captured : List AVal)
  | nfunc
  | iface (t : TypeId) (v : AVal)
  | niface
  | agg (cs : List AVal)
  | tuple (vs : List AVal)

/-- What lies in one cell. -/
def AVal.one : AVal → Bool
  | .any | .agg _ | .tuple _ => false
  | _ => true

/-- Known, and no tuple. -/
def AVal.fine : AVal → Bool
  | .any | .tuple _ => false
  | _ => true

def AVal.cells : AVal → List AVal
  | .agg cs => cs
  | v => [v]

inductive ABlk where
  | cells (e : TypeId) (vs : List AVal) (ro : Bool) (frz : Nat) (wh : Bool)
  | map (es : List (AVal × AVal))
  | iter (s : List UInt8) (pos : Nat)

def ABlk.writable : ABlk → Bool
  | .cells _ _ ro _ _ => !ro
  | _ => true

structure AMem where
  next : Nat
  tree : Tree ABlk

def AMem.get (m : AMem) (b : Nat) : Option ABlk := m.tree.get b
def AMem.set (m : AMem) (b : Nat) (k : ABlk) : AMem := ⟨m.next, m.tree.put b k⟩
def AMem.kill (m : AMem) (b : Nat) : AMem := ⟨m.next, m.tree.set b none⟩
def AMem.new (m : AMem) (k : ABlk) : AMem := ⟨m.next + 1, m.tree.put m.next k⟩

inductive Out (α : Type) where
  | ok (x : α) (m : AMem)
  | pan (v : AVal) (m : AMem)
  | fail (why : String)

/-! ### Constants of the code -/
def absCell : Value → AVal
  | .bool b => .bool b
  | .int k n => .int k n
  | .string s => .str s.data.toList
  | .pointer none => .nptr
  | .slice none 0 0 => .nslice
  | .map none => .nmap
  | .nilFunc => .nfunc
  | .nilIface => .niface
  | _ => .any

def absV : Value → AVal
  | .agg cs => .agg (cs.toList.map absCell)
  | v => absCell v

/-! ### The tables -/
structure Tab where
  prog : Program
  glob : Nat → Bool
  fn : Nat → Option Func
  info : Nat → Option TypeInfo
  spec : Nat → Option (List AVal → AMem → Out AVal)
  eqs : Nat → Bool := fun _ => false

def Tab.und (T : Tab) (t : TypeId) : Option TypeDesc :=
  match T.info t with
  | some { desc := .named _ u, .. } => (T.info u).map (·.desc)
  | some i => some i.desc
  | none => none

def Tab.size (T : Tab) (t : TypeId) : Option Nat := (T.info t).map (·.size)

def Tab.isAgg (T : Tab) (t : TypeId) : Option Bool :=
  match T.und t with
  | some (.struct _) | some (.array _ _) => some true
  | some _ => some false
  | none => none

def Tab.zero (T : Tab) (t : TypeId) : Option AVal :=
  match T.info t with
  | some i => match i.zero with
    | some v => some (absV v)
    | none => none
  | none => none

/-! ### Operands -/
def ev (T : Tab) (t : Tree AVal) : Operand → AVal
  | .tmp i => match t.get i with | some v => v | none => .any
  | .const v => absV v
  | .global g => match T.glob g with | true => .ptr g 0 | false => .any
  | .func f => .func (.func f) [] []

def evList (T : Tab) (t : Tree AVal) (xs : Array Operand) : List AVal := xs.toList.map (ev T t)

/-! ### Pure operations -/
def partOf (T : Tab) (t : TypeId) (cs : List AVal) (off : Nat) : Option AVal :=
  match T.isAgg t with
  | some true => match T.size t with
    | some n => match Nat.ble (off + n) cs.length with
      | true => some (.agg ((cs.drop off).take n))
      | false => none
    | none => none
  | some false => cs[off]?
  | none => none

def intBits (op : BinOp) (k : IntKind) (x y : Int) : Option AVal :=
  let a := BitVec.ofInt k.bits x
  let b := BitVec.ofInt k.bits y
  match op with
  | .and => some (.int k (k.wrap (a &&& b).toNat))
  | .or => some (.int k (k.wrap (a ||| b).toNat))
  | .xor => some (.int k (k.wrap (a ^^^ b).toNat))
  | .andNot => some (.int k (k.wrap (a &&& ~~~b).toNat))
  | _ => none

def eqI : Int → Int → Bool
  | .ofNat a, .ofNat b => Nat.beq a b
  | .negSucc a, .negSucc b => Nat.beq a b
  | _, _ => false

def ltI : Int → Int → Bool
  | .ofNat a, .ofNat b => Nat.blt a b
  | .ofNat _, .negSucc _ => false
  | .negSucc _, .ofNat _ => true
  | .negSucc a, .negSucc b => Nat.blt b a

def intOp (op : BinOp) (k : IntKind) (x y : Int) : Option AVal :=
  match op with
  | .add => some (.int k (k.wrap (x + y)))
  | .sub => some (.int k (k.wrap (x - y)))
  | .mul => some (.int k (k.wrap (x * y)))
  | .quo => if y = 0 then none else some (.int k (k.wrap (x.tdiv y)))
  | .rem => if y = 0 then none else some (.int k (x.tmod y))
  | .eql => some (.bool (eqI x y))
  | .neq => some (.bool (!eqI x y))
  | .lss => some (.bool (ltI x y))
  | .leq => some (.bool (!ltI y x))
  | .gtr => some (.bool (ltI y x))
  | .geq => some (.bool (!ltI x y))
  | op => intBits op k x y

def shiftOp (op : BinOp) (k : IntKind) (x y : Int) : Option AVal :=
  if y < 0 then none else
  match op with
  | .shl => some (.int k (k.wrap (x * 2 ^ min y.toNat k.bits)))
  | .shr => some (.int k (x.fdiv (2 ^ min y.toNat k.bits)))
  | _ => none

def bytesLt : List UInt8 → List UInt8 → Bool
  | _, [] => false
  | [], _ :: _ => true
  | a :: x, b :: y => match Nat.blt a.toNat b.toNat with
    | true => true
    | false => match Nat.beq a.toNat b.toNat with
      | true => bytesLt x y
      | false => false

def bytesEq : List UInt8 → List UInt8 → Bool
  | [], [] => true
  | a :: x, b :: y => match Nat.beq a.toNat b.toNat with
    | true => bytesEq x y
    | false => false
  | _, _ => false

def strOp (op : BinOp) (x y : List UInt8) : Option AVal :=
  match op with
  | .add => match Nat.ble (x.length + y.length) 9223372036854775807 with
    | true => some (.str (x ++ y))
    | false => none
  | .eql => some (.bool (bytesEq x y))
  | .neq => some (.bool (!bytesEq x y))
  | .lss => some (.bool (bytesLt x y))
  | .leq => some (.bool (bytesLt x y || bytesEq x y))
  | .gtr => some (.bool (!(bytesLt x y || bytesEq x y)))
  | .geq => some (.bool (!bytesLt x y))
  | _ => none

/-- Equality of what lies in cells, where it is plain: a type, two values. -/
def eqCell (d : TypeDesc) (x y : AVal) : Option Bool :=
  match d, x, y with
  | .bool, .bool a, .bool b => some (a == b)
  | .int _, .int k a, .int k' b => if k = k' then some (a == b) else none
  | .string, .str a, .str b => some (bytesEq a b)
  | .pointer _, .nptr, .nptr => some true
  | .pointer _, .nptr, .ptr _ _ => some false
  | .pointer _, .ptr _ _, .nptr => some false
  | .interface _, .niface, .iface _ _ => some false
  | .interface _, .iface _ _, .niface => some false
  | .slice _, .nslice, .nslice => some true
  | .slice _, .nslice, .slice .. => some false
  | .slice _, .slice .., .nslice => some false
  | .map _ _, .nmap, .nmap => some true
  | .map _ _, .nmap, .map _ => some false
  | .map _ _, .map _, .nmap => some false
  | .func _ _ _, .nfunc, .nfunc => some true
  | .func _ _ _, .nfunc, .func _ _ _ => some false
  | .func _ _ _, .func _ _ _, .nfunc => some false
  | _, _, _ => none

/-- Equality of two structs of plain fields. -/
def eqFieldsA (T : Tab) (as bs : List AVal) : List Field → Option Bool
  | [] => some true
  | f :: r => match T.und f.type, partOf T f.type as f.offset, partOf T f.type bs f.offset with
    | some d, some x, some y => match eqCell d x y with
      | some true => eqFieldsA T as bs r
      | some false => some false
      | none => none
    | _, _, _ => none

def eqOp (T : Tab) (t : TypeId) (x y : Operand) (a b : AVal) : Option Bool :=
  match T.und t with
  | none => none
  | some d => match d, a, b with
    | .interface _, .niface, .niface => match x, y with
      | .const _, _ => some true
      | _, .const _ => some true
      | _, _ => none
    | .interface _, .iface t1 v1, .iface t2 v2 => if t1 = t2 then
        match T.info t1, T.und t1 with
        | some i, some d1 => match i.comparable with
          | true => eqCell d1 v1 v2
          | false => none
        | _, _ => none
      else some false
    | .pointer e, .ptr b1 o1, .ptr b2 o2 => match T.size e with
      | some (_ + 1) => if b1 = b2 then some (o1 == o2) else none
      | _ => none
    | .struct fs, .agg as, .agg bs => match T.eqs t with
      | true => eqFieldsA T as bs fs.toList
      | false => none
    | d, a, b => eqCell d a b

def binop (T : Tab) (op : BinOp) (t : TypeId) (x y : Operand) (a b : AVal) : Option AVal :=
  match op with
  | .shl => match a, b with | .int k u, .int _ v => shiftOp .shl k u v | _, _ => none
  | .shr => match a, b with | .int k u, .int _ v => shiftOp .shr k u v | _, _ => none
  | op => match a, b with
    | .int k u, .int k' v => if k = k' then intOp op k u v else none
    | .str u, .str v => strOp op u v
    | a, b => match op with
      | .eql => (eqOp T t x y a b).map .bool
      | .neq => (eqOp T t x y a b).map fun r => .bool !r
      | _ => none

def unop (op : UnOp) (x : AVal) : Option AVal :=
  match op, x with
  | .neg, .int k n => some (.int k (k.wrap (0 - n)))
  | .xor, .int k n => intBits .xor k (if k.signed then -1 else k.max) n
  | .not, .bool b => some (.bool !b)
  | _, _ => none

/-- A bound of a slice expression: below some most. -/
def bound (x : AVal) (most : Nat) : Option Nat :=
  match x with
  | .int _ (.ofNat i) => match Nat.ble i most with
    | true => some i
    | false => none
  | _ => none

def boundOr (x : Option AVal) (most dflt : Nat) : Option Nat :=
  match x with
  | some v => bound v most
  | none => some dflt

def bounds2 (len most : Nat) (lo hi : Option AVal) : Option (Nat × Nat) :=
  match boundOr hi most len with
  | none => none
  | some h => match boundOr lo h 0 with
    | none => none
    | some l => some (l, h)

def bounds3 (most : Nat) (lo : Option AVal) (hi mx : AVal) : Option (Nat × Nat × Nat) :=
  match bound mx most with
  | none => none
  | some m => match bound hi m with
    | none => none
    | some h => match boundOr lo h 0 with
      | none => none
      | some l => some (l, h, m)

def sliceOp (T : Tab) (t : TypeId) (x : AVal) (lo hi mx : Option AVal) : Option AVal :=
  match T.und t, x with
  | some .string, .str s => match mx with
    | some _ => none
    | none => match bounds2 s.length s.length lo hi with
      | some (l, h) => some (.str ((s.take h).drop l))
      | none => none
  | some (.slice e), .nslice => match mx, T.size e with
    | none, some _ => match bounds2 0 0 lo hi with
      | some _ => some .nslice
      | none => none
    | _, _ => none
  | some (.slice e), .slice b o len esz cap =>
    match T.size e with
    | none => none
    | some n => match Nat.beq n esz with
      | false => none
      | true => match mx, hi with
        | none, hi => match bounds2 len cap.low lo hi with
          | some (l, h) => some (.slice b (o + l * esz) (h - l) esz (cap.less l))
          | none => none
        | some v, some u => match bounds3 cap.low lo u v with
          | some (l, h, m) => some (.slice b (o + l * esz) (h - l) esz (.exact (m - l)))
          | none => none
        | _, _ => none
  | _, _ => none

def fieldAddrOp (T : Tab) (s : TypeId) (x : AVal) (f : Nat) : Option AVal :=
  match T.und s, x with
  | some (.struct fs), .ptr b o => match fs[f]? with
    | some fd => match T.size fd.type with
      | some (_ + 1) => some (.ptr b (o + fd.offset))
      | _ => none
    | none => none
  | _, _ => none

def fieldOp (T : Tab) (t : TypeId) (x : AVal) (f : Nat) : Option AVal :=
  match T.und t, x with
  | some (.struct fs), .agg cs => match fs[f]? with
    | some fd => partOf T fd.type cs fd.offset
    | none => none
  | _, _ => none

def indexAddrOp (T : Tab) (t : TypeId) (x i : AVal) : Option AVal :=
  match i with
  | .int _ i => match T.und t, x with
    | some (.array n e), .ptr b o => match T.size e with
      | some esz => if 0 ≤ i ∧ i < n then some (.ptr b (o + i.toNat * esz)) else none
      | none => none
    | some (.slice e), .slice b o len esz _ => match T.size e with
      | some n => match Nat.beq n esz with
        | true => if 0 ≤ i ∧ i < len then some (.ptr b (o + i.toNat * esz)) else none
        | false => none
      | none => none
    | _, _ => none
  | _ => none

def indexOp (T : Tab) (t : TypeId) (x i : AVal) : Option AVal :=
  match i with
  | .int _ i => match T.und t, x with
    | some (.array n e), .agg cs => match T.size e with
      | some esz => if 0 ≤ i ∧ i < n then partOf T e cs (i.toNat * esz) else none
      | none => none
    | some .string, .str s => if 0 ≤ i then match s[i.toNat]? with
        | some b => some (.int .u8 b.toNat)
        | none => none
      else none
    | _, _ => none
  | _ => none

def assertOp (T : Tab) (x : AVal) (asserted : TypeId) (commaOk : Bool) : Option AVal :=
  match T.und asserted with
  | none | some (.interface _) => none
  | some _ => match x with
    | .niface => match commaOk with
      | true => (T.zero asserted).map fun z => .tuple [z, .bool false]
      | false => none
    | .iface t v => if t = asserted then some (match commaOk with | true => .tuple [v, .bool true] | false => v)
      else match commaOk with
        | true => (T.zero asserted).map fun z => .tuple [z, .bool false]
        | false => none
    | _ => none

/-- Cells laid over others from a place on. -/
def over (cs : List AVal) (off : Nat) (vs : List AVal) : List AVal := cs.take off ++ vs ++ cs.drop (off + vs.length)

def fillOp (place : Nat → Option (Nat × Nat)) (cs : List AVal) : List (Nat × AVal) → Option (List AVal)
  | [] => some cs
  | (i, v) :: rest => match place i with
    | none => none
    | some (off, size) => match v with
      | .any | .tuple _ => none
      | v => match Nat.beq v.cells.length size && Nat.ble (off + v.cells.length) cs.length with
        | true => fillOp place (over cs off v.cells) rest
        | false => none

def placesOf (T : Tab) : List Field → Option (List (Nat × Nat))
  | [] => some []
  | f :: fs => match T.size f.type, placesOf T fs with
    | some n, some r => some ((f.offset, n) :: r)
    | _, _ => none

def buildOp (T : Tab) (t : TypeId) (parts : List (Nat × AVal)) : Option AVal :=
  match T.zero t, T.und t with
  | some (.agg zs), some (.struct fs) => match placesOf T fs.toList with
    | some ps => (fillOp (fun i => ps[i]?) zs parts).map .agg
    | none => none
  | some (.agg zs), some (.array _ e) => match T.size e with
    | some n => (fillOp (fun i => some (i * n, n)) zs parts).map .agg
    | none => none
  | _, _ => none

def minInts : AVal → List AVal → Option AVal
  | x, [] => some x
  | x, y :: r => match x, y with
    | .int k a, .int _ b => minInts (.int k (if b < a then b else a)) r
    | _, _ => none

def maxInts : AVal → List AVal → Option AVal
  | x, [] => some x
  | x, y :: r => match x, y with
    | .int k a, .int _ b => maxInts (.int k (if b > a then b else a)) r
    | _, _ => none

def lenOp (T : Tab) (t : TypeId) (x : AVal) : Option AVal :=
  match T.und t, x with
  | some .string, .str s => some (.int .i64 s.length)
  | some (.array n _), _ => some (.int .i64 n)
  | some (.pointer a), _ => match T.und a with
    | some (.array n _) => some (.int .i64 n)
    | _ => none
  | some (.slice _), .nslice => some (.int .i64 0)
  | some (.slice _), .slice _ _ n _ _ => some (.int .i64 n)
  | some (.map _ _), .nmap => some (.int .i64 0)
  | _, _ => none

def capOp (T : Tab) (t : TypeId) (x : AVal) : Option AVal :=
  match T.und t, x with
  | some (.array n _), _ => some (.int .i64 n)
  | some (.slice _), .nslice => some (.int .i64 0)
  | some (.slice _), .slice _ _ _ _ (.exact n) => some (.int .i64 n)
  | _, _ => none

def convOp (T : Tab) (src dst : TypeId) (x : AVal) : Option AVal :=
  match T.und src, T.und dst, x with
  | some _, some (.int k), .int _ n => some (.int k (k.wrap n))
  | some _, some .string, .str s => some (.str s)
  | _, _, _ => none

def pureBuiltin (T : Tab) (b : Builtin) (ts : Array TypeId) (args : List AVal) : Option AVal :=
  match b, args with
  | .len, x :: _ => match ts[0]? with | some t => lenOp T t x | none => none
  | .cap, x :: _ => match ts[0]? with | some t => capOp T t x | none => none
  | .min, x :: r => minInts x r
  | .max, x :: r => maxInts x r
  | .unsafeSliceData, [.nslice] => some .nptr
  | .unsafeSliceData, [.slice b o _ _ c] => match c.low with | 0 => none | _ + 1 => some (.ptr b o)
  | _, _ => none

def evP (T : Tab) (t : Tree AVal) (o : Op) : Option AVal :=
  match o with
  | .move x | .assign x => some (ev T t x)
  | .pick c a b => match ev T t c with | .bool true => some (ev T t a) | .bool false => some (ev T t b) | _ => none
  | .nilCheck x => match ev T t x with
    | .ptr b o => some (.ptr b o)
    | .func (.func f) a b => some (.func (.func f) a b)
    | .iface u v => some (.iface u v)
    | _ => none
  | .binOp op xt x y _ => binop T op xt x y (ev T t x) (ev T t y)
  | .unOp op _ x => unop op (ev T t x)
  | .convert a b x => convOp T a b (ev T t x)
  | .makeInterface xt x => match T.und xt with
    | some (.interface _) | none => none
    | some _ => some (.iface xt (ev T t x))
  | .makeFunc fn first captured => some (.func fn (evList T t first) (evList T t captured))
  | .slice xt x lo hi mx => sliceOp T xt (ev T t x) (lo.map (ev T t)) (hi.map (ev T t)) (mx.map (ev T t))
  | .fieldAddr s x f => fieldAddrOp T s (ev T t x) f
  | .field s x f => fieldOp T s (ev T t x) f
  | .indexAddr xt x i => indexAddrOp T xt (ev T t x) (ev T t i)
  | .index xt x i => indexOp T xt (ev T t x) (ev T t i)
  | .typeAssert x _ at_ ok => assertOp T (ev T t x) at_ ok
  | .extract x i => match ev T t x with | .tuple vs => vs[i]? | _ => none
  | .build u parts => buildOp T u (parts.toList.map fun p => (p.1, ev T t p.2))
  | .call c => match c.callee with
    | .builtin b => pureBuiltin T b c.argTypes (evList T t c.args)
    | _ => none
  | _ => none

/-! ### Reading operations -/
def rowOf (g : Nat → Option ABlk) (b o n : Nat) : Option (List AVal) :=
  match g b with
  | some (.cells _ vs _ _ _) => match Nat.ble (o + n) vs.length with
    | true => some ((vs.drop o).take n)
    | false => none
  | _ => none

def loadOp (T : Tab) (g : Nat → Option ABlk) (t : TypeId) (x : AVal) : Option AVal :=
  match x with
  | .ptr b o => match T.isAgg t with
    | some true => match T.size t with
      | some n => (rowOf g b o n).map .agg
      | none => none
    | some false => match g b with
      | some (.cells _ vs _ _ _) => vs[o]?
      | _ => none
    | none => none
  | _ => none

def bytesOf : List AVal → Option (List UInt8)
  | [] => some []
  | .int .u8 n :: r => match bytesOf r with
    | some l => some (UInt8.ofNat n.toNat :: l)
    | none => none
  | _ => none

def keyEq (d : TypeDesc) (x y : AVal) : Option Bool :=
  match d, x, y with
  | .int _, .int k a, .int k' b => if k = k' then some (a == b) else none
  | .string, .str a, .str b => some (bytesEq a b)
  | .bool, .bool a, .bool b => some (a == b)
  | _, _, _ => none

def keyFits (d : TypeDesc) (k : AVal) : Bool :=
  match d, k with
  | .string, .str _ => true
  | .int _, .int _ _ => true
  | .bool, .bool _ => true
  | _, _ => false

def findKey (d : TypeDesc) (x : AVal) : List (AVal × AVal) → Nat → Option (Option (Nat × AVal))
  | [], _ => some none
  | (k, v) :: r, i => match keyEq d x k with
    | some true => some (some (i, v))
    | some false => findKey d x r (i + 1)
    | none => none

def entriesOf (g : Nat → Option ABlk) (x : AVal) : Option (List (AVal × AVal)) :=
  match x with
  | .nmap => some []
  | .map b => match g b with
    | some (.map es) => some es
    | _ => none
  | _ => none

def lookupOp (T : Tab) (g : Nat → Option ABlk) (t : TypeId) (x k : AVal) (commaOk : Bool) : Option AVal :=
  match T.und t with
  | some (.map kt et) => match T.und kt, T.zero et with
    | some d, some z =>
      match entriesOf g x with
      | none => none
      | some es => match keyFits d k with
        | false => none
        | true => match findKey d k es 0 with
          | some (some (_, v)) => some (match commaOk with | true => .tuple [v, .bool true] | false => v)
          | some none => some (match commaOk with | true => .tuple [z, .bool false] | false => z)
          | none => none
    | _, _ => none
  | _ => none

/-- A piece of an array in memory. -/
def sliceArr (T : Tab) (g : Nat → Option ABlk) (t : TypeId) (x : AVal) (lo hi mx : Option AVal) : Option AVal :=
  match T.und t, x with
  | some (.array n e), .ptr b o => match T.size e, g b with
    | some esz, some (.cells _ vs _ _ _) => match Nat.ble (o + n * esz) vs.length with
      | true => match mx with
        | some _ => none
        | none => match bounds2 n n lo hi with
          | some (l, h) => some (.slice b (o + l * esz) (h - l) esz (.exact (n - l)))
          | none => none
      | false => none
    | _, _ => none
  | _, _ => none

/-- A pointer, as unsafe.Pointer and back. -/
def unsafeConv (T : Tab) (g : Nat → Option ABlk) (src dst : TypeId) (x : AVal) : Option AVal :=
  match T.und src, T.und dst with
  | some (.pointer t), some .unsafePointer => match x with
    | .nptr => some .nptr
    | .ptr b o => match g b, T.size t with
      | some (.cells _ vs _ _ _), some (_ + 1) => match Nat.blt o vs.length with
        | true => some (.ptr b o)
        | false => none
      | _, _ => none
    | _ => none
  | some .unsafePointer, some (.pointer u) => match x with
    | .nptr => some .nptr
    | .ptr b o => match g b, T.size u with
      | some (.cells e vs _ _ true), some _ => match liesAt T.prog T.prog.depth e (vs.length / T.prog.cellsOf e) o u 1 with
        | true => some (.ptr b o)
        | false => none
      | _, _ => none
    | _ => none
  | _, _ => none

def evR (T : Tab) (t : Tree AVal) (g : Nat → Option ABlk) (o : Op) : Option AVal :=
  match o with
  | .load u x => loadOp T g u (ev T t x)
  | .lookup mt x k ok => lookupOp T g mt (ev T t x) (ev T t k) ok
  | .slice xt x lo hi mx => sliceArr T g xt (ev T t x) (lo.map (ev T t)) (hi.map (ev T t)) (mx.map (ev T t))
  | .convert a b x => match T.und a, T.und b, ev T t x with
    | some (.slice e), some .string, x => match T.und e, x with
      | some (.int .u8), .nslice => some (.str [])
      | some (.int .u8), .slice b o len 1 _ => match rowOf g b o len with
        | some cs => (bytesOf cs).map .str
        | none => none
      | _, _ => none
    | _, _, x => unsafeConv T g a b x
  | .call c => match c.callee, evList T t c.args with
    | .builtin .len, .map b :: _ => match c.argTypes[0]? with
      | some mt => match T.und mt with
        | some (.map _ _) => match g b with
          | some (.map es) => some (.int .i64 es.length)
          | _ => none
        | _ => none
      | none => none
    | _, _ => none
  | _ => none

/-! ### Operations that make one block and read nothing -/
def repeatCells (z : List AVal) : Nat → List AVal
  | 0 => []
  | n + 1 => z ++ repeatCells z n

def evA (T : Tab) (t : Tree AVal) (id : Nat) (o : Op) : Option (AVal × ABlk) :=
  match o with
  | .alloc e => match T.zero e with
    | none | some .any | some (.tuple _) => none
    | some z => some (.ptr id 0, .cells e z.cells false 0 true)
  | .box e x => match ev T t x with
    | .any | .tuple _ => none
    | v => some (.ptr id 0, .cells e v.cells false 0 true)
  | .buildSlice st len parts => match T.und st with
    | some (.slice e) => match T.size e, T.zero e with
      | some n, some z => match Nat.ble (len * n) 16777216 && Nat.beq z.cells.length n && z.fine with
        | true => (fillOp (fun i => some (i * n, n)) (repeatCells z.cells len) (parts.toList.map fun p => (p.1, ev T t p.2))).map
            fun cs => (.slice id 0 len n (.exact len), .cells e cs false 0 false)
        | false => none
      | _, _ => none
    | _ => none
  | .makeMap mt r => match r with
    | none => some (.map id, .map [])
    | some x => match T.und mt, ev T t x with
      | some (.map _ _), .int _ _ => some (.map id, .map [])
      | _, _ => none
  | .makeSlice st l c => match T.und st, ev T t l, ev T t c with
    | some (.slice e), .int _ l, .int _ c => match T.info e, T.zero e with
      | some i, some z =>
        if 0 ≤ l ∧ l ≤ c ∧ c ≤ 1099511627776 ∧ i.bytes * c ≤ 281474976710656 then
          match Nat.beq z.cells.length i.size && z.fine with
          | true => some (.slice id 0 l.toNat i.size (.exact c.toNat), .cells e (repeatCells z.cells c.toNat) false 0 false)
          | false => none
        else none
      | _, _ => none
    | _, _, _ => none
  | .convert a b x => match T.und a, T.und b, ev T t x with
    | some .string, some (.slice e), .str s => match T.und e with
      | some (.int .u8) => match Nat.ble s.length 1099511627776 with
        | true => some (.slice id 0 s.length 1 (.least s.length), .cells e (s.map fun b => .int .u8 b.toNat) false 0 false)
        | false => none
      | _ => none
    | _, _, _ => none
  | .range xt x => match T.und xt, ev T t x with
    | some .string, .str s => some (.ptr id 0, .iter s 0)
    | _, _ => none
  | _ => none

/-! ### Operations that write -/
inductive Res where
  | val (v : AVal) (m : AMem)
  | call (f : FuncId) (args : List AVal)
  | pan (v : AVal)
  | fail

def storeOp (T : Tab) (m : AMem) (t : TypeId) (x v : AVal) : Res :=
  match x with
  | .ptr b o => match v with
    | .any | .tuple _ => .fail
    | v => match T.size t, m.get b with
      | some n, some (.cells e vs false frz wh) =>
        match Nat.beq v.cells.length n && v.cells.all AVal.one && Nat.ble frz o && Nat.ble (o + n) vs.length with
        | true => .val .any (m.set b (.cells e (over vs o v.cells) false frz wh))
        | false => .fail
      | _, _ => .fail
  | _ => .fail

/-- The cells that are appended. -/
def sourceOf (m : AMem) (esz : Nat) (x : AVal) : Option (Nat × List AVal) :=
  match x with
  | .nslice => some (0, [])
  | .slice b o len e _ => match Nat.beq e esz with
    | true => match rowOf m.get b o (len * esz) with
      | some cs => match cs.all AVal.one with
        | true => some (len, cs)
        | false => none
      | none => none
    | false => none
  | .str s => match esz with
    | 1 => some (s.length, s.map fun b => .int .u8 b.toNat)
    | _ => none
  | _ => none

def appendOp (T : Tab) (m : AMem) (ts : Array TypeId) (args : List AVal) : Res :=
  match args, ts[0]?, ts[1]? with
  | [s, x], some st, some xt => match T.und st, T.und xt with
    | some (.slice e), some xd => match (match xd with | .slice _ | .string => true | _ => false), T.info e, T.zero e with
      | true, some i, some z => match Nat.beq z.cells.length i.size && z.fine, sourceOf m i.size x with
        | true, some (n, cs) => match n with
          | 0 => match s with
            | .nslice => .val .nslice m
            | .slice b o len esz c => .val (.slice b o len esz c) m
            | _ => .fail
          | _ + 1 => match s with
            | .nslice => match Nat.ble n 1099511627776 && Nat.ble (n * i.bytes) 70368744177664 && Nat.ble i.bytes 1073741824 with
              | true => .val (.slice m.next 0 n i.size (.least n)) (m.new (.cells e cs false 0 false))
              | false => .fail
            | .slice b o len esz c => match Nat.beq esz i.size && Nat.ble (len + n) 1099511627776 && Nat.ble ((len + n) * i.bytes) 70368744177664 && Nat.ble i.bytes 1073741824 with
              | false => .fail
              | true => match m.get b with
                | some (.cells eb vs ro frz wh) =>
                  match Nat.ble (o + len * esz) vs.length with
                  | false => .fail
                  | true => match Nat.ble (len + n) c.low with
                    | true => match !ro && Nat.ble frz (o + len * esz) with
                      | true => .val (.slice b o (len + n) esz c) (m.set b (.cells eb (over vs (o + len * esz) cs) false frz wh))
                      | false => .fail
                    | false => match ((vs.drop o).take (len * esz)).all AVal.one with
                      | false => .fail
                      | true => match c with
                        | .exact _ => .val (.slice m.next 0 (len + n) esz (.least (len + n))) (m.new (.cells e ((vs.drop o).take (len * esz) ++ cs) false 0 false))
                        | .least _ => match !ro && Nat.ble frz (o + len * esz) && Nat.beq eb e with
                          | true => .val (.slice m.next 0 (len + n) esz (.least (len + n))) ((m.kill b).new (.cells e ((vs.drop o).take (len * esz) ++ cs) false (frz - o) false))
                          | false => .fail
                | _ => .fail
            | _ => .fail
        | _, _ => .fail
      | _, _, _ => .fail
    | _, _ => .fail
  | _, _, _ => .fail

/-- The first cells of what is copied from. -/
def firstOf (m : AMem) (n k : Nat) (x : AVal) : Option (List AVal) :=
  match x with
  | .nslice => match k with
    | 0 => some []
    | _ + 1 => none
  | .slice b o len e _ => match Nat.beq e n && Nat.ble k len with
    | true => rowOf m.get b o (k * n)
    | false => none
  | .str s => match n with
    | 1 => match Nat.ble k s.length with
      | true => some ((s.take k).map fun c => .int .u8 c.toNat)
      | false => none
    | _ => none
  | _ => none

def lenOfA (x : AVal) : Option Nat :=
  match x with
  | .nslice => some 0
  | .slice _ _ l _ _ => some l
  | .str s => some s.length
  | _ => none

def copyOp (T : Tab) (m : AMem) (ts : Array TypeId) (args : List AVal) : Res :=
  match args, ts[0]? with
  | [d, x], some dt => match T.und dt with
    | some (.slice e) => match T.size e, lenOfA x, d with
      | some n, some xl, .slice b o len esz _ => match Nat.beq esz n, firstOf m n (min xl len) x with
        | true, some cs => match cs with
          | [] => .val (.int .i64 ((min xl len : Nat) : Int)) m
          | c :: cs => match m.get b with
            | some (.cells e vs false frz wh) => match (c :: cs).all AVal.one && Nat.ble frz o && Nat.ble (o + min xl len * n) vs.length with
              | true => .val (.int .i64 ((min xl len : Nat) : Int)) (m.set b (.cells e (over vs o (c :: cs)) false frz wh))
              | false => .fail
            | _ => .fail
        | _, _ => .fail
      | _, _, _ => .fail
    | _ => .fail
  | _, _ => .fail

def setNth (es : List (AVal × AVal)) (i : Nat) (k v : AVal) : List (AVal × AVal) :=
  match es, i with
  | [], _ => []
  | _ :: r, 0 => (k, v) :: r
  | e :: r, i + 1 => e :: setNth r i k v

def mapUpdateOp (T : Tab) (m : AMem) (mt : TypeId) (x k v : AVal) : Res :=
  match T.und mt with
  | some (.map kt _) => match T.und kt, x with
    | some d, .map b => match m.get b with
      | some (.map es) => match keyFits d k with
        | false => .fail
        | true => match findKey d k es 0 with
          | some (some (i, _)) => .val .any (m.set b (.map (setNth es i k v)))
          | some none => .val .any (m.set b (.map (es ++ [(k, v)])))
          | none => .fail
      | _ => .fail
    | _, _ => .fail
  | _ => .fail

/-- One letter of a string that is ranged over (ASCII alone here; else the model's own decode). -/
def nextOp (m : AMem) (x : AVal) (isString : Bool) : Res :=
  match x, isString with
  | .ptr b 0, true => match m.get b with
    | some (.iter s pos) => match Nat.blt pos s.length with
      | true =>
        let cw := Utf8.decode ⟨s.toArray⟩ pos
        .val (.tuple [.bool true, .int .i64 pos, .int .i32 cw.1]) (m.set b (.iter s (pos + cw.2)))
      | false => .val (.tuple [.bool false]) m
    | _ => .fail
  | _, _ => .fail

def unsafeStringOp (T : Tab) (m : AMem) (ts : Array TypeId) (args : List AVal) : Res :=
  match ts.toList, args with
  | [_, _], [.nptr, .int _ n] => if n = 0 then .val (.str []) m else .fail
  | [pt, _], [.ptr b o, .int _ n] => if n = 0 then .val (.str []) m else
    if n < 0 ∨ n > 9223372036854775807 then .fail else
    match m.get b with
    | some (.cells e vs false frz wh) => match T.und pt, T.size e with
      | some (.pointer u), some 1 => match Nat.beq e u, rowOf m.get b o n.toNat with
        | true, some cs => match bytesOf cs with
          | some l => .val (.str l) (m.set b (.cells e vs true frz wh))
          | none => .fail
        | _, _ => .fail
      | _, _ => .fail
    | _ => .fail
  | _, _ => .fail

def evW (T : Tab) (t : Tree AVal) (m : AMem) (o : Op) : Res :=
  match o with
  | .store u a x => storeOp T m u (ev T t a) (ev T t x)
  | .mapUpdate mt x k v => mapUpdateOp T m mt (ev T t x) (ev T t k) (ev T t v)
  | .next it s => nextOp m (ev T t it) s
  | .panic x => match ev T t x with | .iface u v => .pan (.iface u v) | _ => .fail
  | .call c => match c.callee with
    | .value f => match ev T t f with
      | .func (.func g) first captured => .call g (first ++ evList T t c.args ++ captured)
      | _ => .fail
    | .builtin .append => appendOp T m c.argTypes (evList T t c.args)
    | .builtin .copy => copyOp T m c.argTypes (evList T t c.args)
    | .builtin .unsafeString => unsafeStringOp T m c.argTypes (evList T t c.args)
    | _ => .fail
  | _ => .fail

/-! ### Which kind an operation is of: by its form and its types alone -/
inductive Kd where
  | p | r | a | w

def kindOf (T : Tab) (o : Op) : Kd :=
  match o with
  | .load .. | .lookup .. => .r
  | .alloc _ | .box .. | .buildSlice .. | .makeMap .. | .makeSlice .. | .range .. => .a
  | .convert a b _ => match T.und a, T.und b with
    | some (.slice _), _ => .r
    | some .string, some (.slice _) => .a
    | some .unsafePointer, _ => .r
    | _, some .unsafePointer => .r
    | _, _ => .p
  | .store .. | .mapUpdate .. | .next .. | .panic _ => .w
  | .slice t .. => match T.und t with | some (.array _ _) => .r | _ => .p
  | .call c => match c.callee with
    | .builtin .len => match c.argTypes[0]? with
      | some t => match T.und t with | some (.map _ _) => .r | _ => .p
      | none => .p
    | .builtin .cap | .builtin .min | .builtin .max | .builtin .unsafeSliceData => .p
    | _ => .w
  | _ => .p

/-! ### Regions -/
def wantedOp (ops : Array Oper) (t : Tree AVal) (o : Oper) : Option Bool :=
  match o.guard with
  | none => some true
  | some (j, want) => match ops[j]? with
    | some oj => match oj.dst with
      | some d => match t.get d with
        | some (.bool b) => some (b == want)
        | some .any => none
        | some _ => some false
        | none => none
      | none => none
    | none => none

def putDst (n : Nat) (t : Tree AVal) (d : Option Nat) (v : AVal) : Option (Tree AVal) :=
  match d with
  | none => some t
  | some d => match Nat.blt d n with
    | true => some (t.put d v)
    | false => none

/-- One operation, in the order of the text. -/
def evOne (T : Tab) (callF : FuncId → List AVal → AMem → Out AVal) (t : Tree AVal) (m : AMem) (o : Op) : Out AVal :=
  match kindOf T o with
  | .p => match evP T t o with | some v => .ok v m | none => .fail ""
  | .r => match evR T t m.get o with | some v => .ok v m | none => .fail ""
  | .a => match evA T t m.next o with | some (v, k) => .ok v (m.new k) | none => .fail ""
  | .w => match evW T t m o with
    | .val v m' => .ok v m'
    | .call f args => callF f args m
    | .pan v => .pan v m
    | .fail => .fail ""

def evOps (T : Tab) (callF : FuncId → List AVal → AMem → Out AVal) (n : Nat) (all : Array Oper) : List Oper → Tree AVal → AMem → Out (Tree AVal)
  | [], t, m => .ok t m
  | o :: rest, t, m => match wantedOp all t o with
    | none => .fail o.pos
    | some false => match putDst n t o.dst (.tuple []) with
      | some t' => evOps T callF n all rest t' m
      | none => .fail o.pos
    | some true => match evOne T callF t m o.op with
      | .ok v m' => match putDst n t o.dst v with
        | some t' => evOps T callF n all rest t' m'
        | none => .fail o.pos
      | .pan v m' => .pan v m'
      | .fail "" => .fail o.pos
      | .fail w => .fail w

/-! ### Regions that draw their order -/
def Cap.same : Cap → Cap → Bool
  | .exact a, .exact b => Nat.beq a b
  | .least a, .least b => Nat.beq a b
  | _, _ => false

def sameL (p : AVal → AVal → Bool) : List AVal → List AVal → Bool
  | [], [] => true
  | a :: as, b :: bs => match p a b with
    | true => sameL p as bs
    | false => false
  | _, _ => false

def sameF : Nat → AVal → AVal → Bool
  | 0, _, _ => false
  | f + 1, a, b =>
    match a, b with
    | .any, .any => true
    | .bool x, .bool y => x == y
    | .int k x, .int k' y => if k = k' then x == y else false
    | .str x, .str y => bytesEq x y
    | .nptr, .nptr => true
    | .ptr x o, .ptr y o' => match Nat.beq x y with
      | true => Nat.beq o o'
      | false => false
    | .nslice, .nslice => true
    | .slice x o l e c, .slice y o' l' e' c' => match Nat.beq x y, Nat.beq o o', Nat.beq l l', Nat.beq e e', Cap.same c c' with
      | true, true, true, true, true => true
      | _, _, _, _, _ => false
    | .nmap, .nmap => true
    | .map x, .map y => Nat.beq x y
    | .func (.func g) f1 c1, .func (.func h) f2 c2 => match Nat.beq g h, sameL (sameF f) f1 f2, sameL (sameF f) c1 c2 with
      | true, true, true => true
      | _, _, _ => false
    | .nfunc, .nfunc => true
    | .iface t x, .iface u y => match Nat.beq t u with
      | true => sameF f x y
      | false => false
    | .niface, .niface => true
    | .agg x, .agg y => sameL (sameF f) x y
    | .tuple x, .tuple y => sameL (sameF f) x y
    | _, _ => false

def diff (a b : Nat) : Nat := Nat.xor (Nat.lor a b) b

/-- The memory with some of the blocks that lie beside it. -/
def view (base : Nat) (m : AMem) (f : Nat → Bool) : List (Nat × ABlk) → AMem
  | [] => m
  | (q, k) :: rest => match f q with
    | true => (view base m f rest).set (base + q) k
    | false => view base m f rest

def maskFrom (pre : Tree Nat) : List Edge → Option Nat
  | [] => some 0
  | e :: es => match Region.binds .any e with
    | false => maskFrom pre es
    | true => match pre.get e.on, maskFrom pre es with
      | some k, some m => some (Nat.lor (Nat.lor (2 ^ e.on) k) m)
      | _, _ => none

def masks : List Oper → Nat → Tree Nat → Option (Tree Nat)
  | [], _, p => some p
  | o :: rest, i, p => match maskFrom p o.after.toList with
    | some k => masks rest (i + 1) (p.put i k)
    | none => none

def whoOf : List Oper → Nat → Tree Nat → Option (Tree Nat)
  | [], _, w => some w
  | o :: rest, i, w => match o.dst with
    | none => whoOf rest (i + 1) w
    | some d => match w.get d with
      | some _ => none
      | none => whoOf rest (i + 1) (w.put d i)

def looksOk (pre who : Tree Nat) (i p : Nat) : List Nat → Bool
  | [] => true
  | u :: us => match who.get u with
    | none => looksOk pre who i p us
    | some j => match Nat.testBit p j with
      | true => looksOk pre who i p us
      | false => match pre.get j with
        | some pj => match Nat.testBit pj i with
          | true => looksOk pre who i p us
          | false => false
        | none => false

structure Stage where
  m : AMem
  abs : Nat
  wm : Nat

structure Rd where
  i : Nat
  p : Nat
  op : Op
  t : Tree AVal
  v : AVal
  kc : Nat

structure DS where
  t : Tree AVal
  made : List (Nat × ABlk)
  st : Stage
  old : List Stage
  reads : List Rd
  pan : Option (Nat × AVal × AMem)

def deadBy (pan : Option (Nat × AVal × AMem)) (p : Nat) : Bool :=
  match pan with
  | none => false
  | some x => Nat.testBit p x.1

def drawWant (T : Tab) (callF : FuncId → List AVal → AMem → Out AVal) (n base : Nat) (p i : Nat) (o : Oper) (ds : DS) : Except String DS :=
  match kindOf T o.op with
  | .p => match evP T ds.t o.op with
    | none => .error o.pos
    | some v => match putDst n ds.t o.dst v with
      | none => .error o.pos
      | some t' => .ok { ds with t := t' }
  | .r => match evR T ds.t (view base ds.st.m (Nat.testBit (diff p ds.st.abs)) ds.made).get o.op with
    | none => .error o.pos
    | some v => match putDst n ds.t o.dst v with
      | none => .error o.pos
      | some t' => .ok { ds with t := t', reads := ⟨i, p, o.op, ds.t, v, ds.old.length⟩ :: ds.reads }
  | .a => match evA T ds.t (base + i) o.op with
    | none => .error o.pos
    | some (v, b) => match putDst n ds.t o.dst v with
      | none => .error o.pos
      | some t' => .ok { ds with t := t', made := (i, b) :: ds.made }
  | .w => match ds.pan with
    | some _ => .error o.pos
    | none => match Nat.beq (Nat.land p ds.st.wm) ds.st.wm with
      | false => .error o.pos
      | true => match evOne T callF ds.t (view base ds.st.m (Nat.testBit (diff p ds.st.abs)) ds.made) o.op with
        | .ok v m' => match putDst n ds.t o.dst v with
          | none => .error o.pos
          | some t' => .ok { ds with t := t', st := ⟨m', Nat.lor p ds.st.abs, Nat.lor (2 ^ i) ds.st.wm⟩, old := ds.st :: ds.old }
        | .pan v m' => .ok { ds with pan := some (i, v, m') }
        | .fail "" => .error o.pos
        | .fail w => .error w

def drawStep (T : Tab) (callF : FuncId → List AVal → AMem → Out AVal) (n : Nat) (all : Array Oper) (base : Nat) (pre who : Tree Nat) (i : Nat) (o : Oper) (ds : DS) : Except String DS :=
  match pre.get i with
  | none => .error o.pos
  | some p => match looksOk pre who i p (o.looksAt all) with
    | false => .error o.pos
    | true => match deadBy ds.pan p with
      | true => .ok ds
      | false => match wantedOp all ds.t o with
        | none => .error o.pos
        | some false => match putDst n ds.t o.dst (.tuple []) with
          | none => .error o.pos
          | some t' => .ok { ds with t := t' }
        | some true => drawWant T callF n base p i o ds

def drawOps (T : Tab) (callF : FuncId → List AVal → AMem → Out AVal) (n : Nat) (all : Array Oper) (base : Nat) (pre who : Tree Nat) : List Oper → Nat → DS → Except String DS
  | [], _, ds => .ok ds
  | o :: rest, i, ds => match drawStep T callF n all base pre who i o ds with
    | .ok ds' => drawOps T callF n all base pre who rest (i + 1) ds'
    | .error w => .error w

def readOk (T : Tab) (base : Nat) (made : List (Nat × ABlk)) (wmEnd : Nat) (k : Nat) (s : Stage) (rd : Rd) : Bool :=
  match Nat.beq k rd.kc with
  | true => true
  | false => match Nat.testBit s.abs rd.i with
    | true => true
    | false => match Nat.beq (Nat.land (Nat.land rd.p wmEnd) s.wm) (Nat.land rd.p wmEnd) with
      | false => true
      | true => match evR T rd.t (view base s.m (Nat.testBit (diff rd.p s.abs)) made).get rd.op with
        | some v => sameF 100 v rd.v
        | none => false

def readsOk (T : Tab) (base : Nat) (made : List (Nat × ABlk)) (wmEnd : Nat) (k : Nat) (s : Stage) : List Rd → Bool
  | [] => true
  | rd :: rest => match readOk T base made wmEnd k s rd with
    | true => readsOk T base made wmEnd k s rest
    | false => false

def stagesOk (T : Tab) (base : Nat) (made : List (Nat × ABlk)) (wmEnd : Nat) (reads : List Rd) : List Stage → Bool
  | [] => true
  | s :: rest => match readsOk T base made wmEnd rest.length s reads with
    | true => stagesOk T base made wmEnd reads rest
    | false => false

def evDraw (T : Tab) (callF : FuncId → List AVal → AMem → Out AVal) (n : Nat) (ops : Array Oper) (t : Tree AVal) (m : AMem) : Out (Tree AVal) :=
  match masks ops.toList 0 .leaf, whoOf ops.toList 0 .leaf with
  | some pre, some who => match drawOps T callF n ops m.next pre who ops.toList 0 ⟨t, [], ⟨⟨m.next + ops.size, m.tree⟩, 0, 0⟩, [], [], none⟩ with
    | .error w => .fail w
    | .ok ds => match stagesOk T m.next ds.made ds.st.wm ds.reads (ds.st :: ds.old) with
      | false => .fail "read"
      | true => match ds.pan with
        | some (_, v, m') => .pan v m'
        | none => .ok ds.t (view m.next ds.st.m (Nat.testBit (diff (2 ^ ops.size - 1) ds.st.abs)) ds.made)
  | _, _ => .fail "order"

def evRegion (T : Tab) (callF : FuncId → List AVal → AMem → Out AVal) (n : Nat) (ops : Array Oper) (draw : Bool) (t : Tree AVal) (m : AMem) : Out (Tree AVal) :=
  match draw with
  | false => evOps T callF n ops ops.toList t m
  | true => evDraw T callF n ops t m

/-! ### Code -/
inductive Ex where
  | normal
  | exit (id : Nat)
  | goto (l : Nat)
  | ret

def iter (body : Tree AVal → AMem → Out (Ex × Tree AVal)) : Nat → Tree AVal → AMem → Out (Ex × Tree AVal)
  | 0, _, _ => .fail "fuel"
  | k + 1, t, m => match body t m with
    | .ok (.normal, t') m' => iter body k t' m'
    | r => r

def evCode (T : Tab) (callF : FuncId → List AVal → AMem → Out AVal) (fuel n : Nat) : Code → Tree AVal → AMem → Out (Ex × Tree AVal)
  | .skip, t, m => .ok (.normal, t) m
  | .region _ ops draw, t, m => match evRegion T callF n ops draw t m with
    | .ok t' m' => .ok (.normal, t') m'
    | .pan v m' => .pan v m'
    | .fail w => .fail w
  | .seq a b, t, m => match evCode T callF fuel n a t m with
    | .ok (.normal, t') m' => evCode T callF fuel n b t' m'
    | r => r
  | .cond c x y, t, m => match ev T t c with
    | .bool true => evCode T callF fuel n x t m
    | .bool false => evCode T callF fuel n y t m
    | _ => .fail "cond"
  | .block id c, t, m => match evCode T callF fuel n c t m with
    | .ok (.exit id', t') m' => if id' = id then .ok (.normal, t') m' else .ok (.exit id', t') m'
    | r => r
  | .loop c, t, m => iter (evCode T callF fuel n c) fuel t m
  | .exit id, t, m => .ok (.exit id, t) m
  | .ret, t, m => .ok (.ret, t) m
  | _, _, _ => .fail "code"

/-! ### Functions -/
def resultsOf (T : Tab) (t : Tree AVal) (m : AMem) : List ResultVar → Option (List AVal)
  | [] => some []
  | .tmp i :: r => match resultsOf T t m r with
    | some vs => some (ev T t (.tmp i) :: vs)
    | none => none
  | .cell a u :: r => match loadOp T m.get u (ev T t (.tmp a)), resultsOf T t m r with
    | some v, some vs => some (v :: vs)
    | _, _ => none

def oneResult : List AVal → AVal
  | [v] => v
  | vs => .tuple vs

def argTree (args : List AVal) : Tree AVal := Tree.ofList args

def evBody (T : Tab) (callF : FuncId → List AVal → AMem → Out AVal) (fuel : Nat) (fn : Func) (args : List AVal) (m : AMem) : Out AVal :=
  match fn.body with
  | none => .fail "body"
  | some c => match Nat.ble args.length fn.ntmps with
    | false => .fail "args"
    | true => match evCode T callF fuel fn.ntmps c (argTree args) m with
      | .ok (.normal, t) m' | .ok (.ret, t) m' => match resultsOf T t m' fn.results.toList with
        | some vs => .ok (oneResult vs) m'
        | none => .fail "results"
      | .ok _ _ => .fail "exit"
      | .pan v m' => .pan v m'
      | .fail w => .fail w

def evFn (T : Tab) : Nat → FuncId → List AVal → AMem → Out AVal
  | 0, _, _, _ => .fail "depth"
  | n + 1, f, args, m => match T.spec f with
    | some F => F args m
    | none => match T.fn f with
      | some fn => evBody T (evFn T n) n fn args m
      | none => .fail "fn"

def Out.isTrue : Out AVal → Bool
  | .ok (.bool true) _ => true
  | _ => false
end
end Ev
end Go.Proofs.YtfddpaljmihinaaGreatDoor
