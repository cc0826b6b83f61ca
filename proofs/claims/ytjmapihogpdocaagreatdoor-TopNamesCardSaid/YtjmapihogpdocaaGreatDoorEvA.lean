/-
  The evaluator over an abstract memory: its definitions, what its values are to the machine's, its pure operations. (Conditions: none beyond what each theorem asks.)
-/
import Derived.Control
import Derived.Orders
import Derived.Laws.Sem
import Derived.Laws.Entries
import Derived.Laws.StructEq
import Derived.ChangeKeysEq
import Derived.Laws.Strings
import Derived.Lib.IndexBytes
import Derived.WideShapes
/-! ## EvBase -/
namespace Go.Proofs.YtjmapihogpdocaaGreatDoor
namespace Ev
open Go
noncomputable section

/-! ### A binary tree with numbers for keys -/
inductive Tree (α : Type) where
  | leaf
  | node (l : Tree α) (v : Option α) (r : Tree α)

noncomputable def Tree.get {α : Type} (t : Tree α) : Nat → Option α :=
  Tree.rec (motive := fun _ => Nat → Option α) (fun _ => none)
    (fun _ v _ gl gr n => Nat.rec (motive := fun _ => Option α) v (fun k _ => Bool.rec (motive := fun _ => Option α) (gr (Nat.div k 2)) (gl (Nat.div k 2)) (Nat.beq (Nat.mod k 2) 0)) n) t

noncomputable def Tree.setF {α : Type} (f : Nat) : Tree α → Nat → Option α → Tree α :=
  Nat.rec (motive := fun _ => Tree α → Nat → Option α → Tree α) (fun t _ _ => t)
    (fun _ ih t n x => Tree.rec (motive := fun _ => Tree α)
      (Nat.rec (motive := fun _ => Tree α) (.node .leaf x .leaf)
        (fun k _ => Bool.rec (motive := fun _ => Tree α) (.node .leaf none (ih .leaf (Nat.div k 2) x)) (.node (ih .leaf (Nat.div k 2) x) none .leaf) (Nat.beq (Nat.mod k 2) 0)) n)
      (fun l v r _ _ => Nat.rec (motive := fun _ => Tree α) (.node l x r)
        (fun k _ => Bool.rec (motive := fun _ => Tree α) (.node l v (ih r (Nat.div k 2) x)) (.node (ih l (Nat.div k 2) x) v r) (Nat.beq (Nat.mod k 2) 0)) n) t) f

def Tree.set {α : Type} (t : Tree α) (n : Nat) (x : Option α) : Tree α := Tree.setF (n + 1) t n x

def Tree.put {α : Type} (t : Tree α) (n : Nat) (x : α) : Tree α := t.set n (some x)

def Tree.ofListFrom {α : Type} : List α → Nat → Tree α → Tree α
  | [], _, t => t
  | x :: xs, n, t => Tree.ofListFrom xs (n + 1) (t.put n x)

def Tree.ofList {α : Type} (l : List α) : Tree α := Tree.ofListFrom l 0 .leaf

/-! ### Abstract values and memory -/
inductive Cap where
  | exact (n : Nat)
  | least (n : Nat)

def Cap.low : Cap → Nat
  | .exact n => n
  | .least n => n

def Cap.less : Cap → Nat → Cap
  | .exact n, k => .exact (n - k)
  | .least n, k => .least (n - k)

inductive AVal where
  | any
  | bool (b : Bool)
  | int (k : IntKind) (n : Int)
  | str (s : List UInt8)
  | nptr
  | ptr (b o : Nat)
  | nslice
  | slice (b o len esz : Nat) (cap : Cap)
  | nmap
  | map (b : Nat)
  | chan (b : Nat)
  | func (fn : Fn) (first captured : List AVal)
  | nfunc
  | iface (t : TypeId) (v : AVal)
  | niface
  | agg (cs : List AVal)
  | tuple (vs : List AVal)

/-- What lies in one cell. -/
def AVal.one : AVal → Bool
  | .any | .agg _ | .tuple _ => false
  | _ => true

/-- Known, and no tuple. -/
def AVal.fine : AVal → Bool
  | .any | .tuple _ => false
  | _ => true

def AVal.cells : AVal → List AVal
  | .agg cs => cs
  | v => [v]

inductive ABlk where
  | cells (e : TypeId) (vs : List AVal) (ro : Bool) (frz : Nat) (wh : Bool)
  | map (es : List (AVal × AVal)) (bs : List Nat) (ck : Nat)
  | iter (s : List UInt8) (pos : Nat)
  | miter (m : Option Nat) (since : Nat) (seen : List Nat) (last : Nat)
  | chan (cap : Nat) (buf : List AVal)

def ABlk.writable : ABlk → Bool
  | .cells _ _ ro _ _ => !ro
  | _ => true

structure AMem where
  next : Nat
  tree : Tree ABlk

def AMem.get (m : AMem) (b : Nat) : Option ABlk := m.tree.get b
def AMem.set (m : AMem) (b : Nat) (k : ABlk) : AMem := ⟨m.next, m.tree.put b k⟩
def AMem.kill (m : AMem) (b : Nat) : AMem := ⟨m.next, m.tree.set b none⟩
def AMem.new (m : AMem) (k : ABlk) : AMem := ⟨m.next + 1, m.tree.put m.next k⟩

inductive Out (α : Type) where
  | ok (x : α) (m : AMem)
  | pan (v : AVal) (m : AMem)
  | fail (why : String)

/-! ### Constants of the code -/
def absCell : Value → AVal
  | .bool b => .bool b
  | .int k n => .int k n
  | .string s => .str s.data.toList
  | .pointer none => .nptr
  | .slice none 0 0 => .nslice
  | .map none => .nmap
  | .nilFunc => .nfunc
  | .nilIface => .niface
  | _ => .any

def absV : Value → AVal
  | .agg cs => .agg (cs.toList.map absCell)
  | v => absCell v

/-! ### The tables -/
structure Tab where
  prog : Program
  glob : Nat → Bool
  fn : Nat → Option Func
  info : Nat → Option TypeInfo
  spec : Nat → Option (List AVal → AMem → Out AVal)
  eqs : Nat → Bool := fun _ => false

def Tab.und (T : Tab) (t : TypeId) : Option TypeDesc :=
  match T.info t with
  | some { desc := .named _ u, .. } => (T.info u).map (·.desc)
  | some i => some i.desc
  | none => none

def Tab.size (T : Tab) (t : TypeId) : Option Nat := (T.info t).map (·.size)

def Tab.isAgg (T : Tab) (t : TypeId) : Option Bool :=
  match T.und t with
  | some (.struct _) | some (.array _ _) => some true
  | some _ => some false
  | none => none

def Tab.zero (T : Tab) (t : TypeId) : Option AVal :=
  match T.info t with
  | some i => match i.zero with
    | some v => some (absV v)
    | none => none
  | none => none

/-! ### Operands -/
def ev (T : Tab) (t : Tree AVal) : Operand → AVal
  | .tmp i => match t.get i with | some v => v | none => .any
  | .const v => absV v
  | .global g => match T.glob g with | true => .ptr g 0 | false => .any
  | .func f => .func (.func f) [] []

def evList (T : Tab) (t : Tree AVal) (xs : Array Operand) : List AVal := xs.toList.map (ev T t)

/-! ### Pure operations -/
def partOf (T : Tab) (t : TypeId) (cs : List AVal) (off : Nat) : Option AVal :=
  match T.isAgg t with
  | some true => match T.size t with
    | some n => match Nat.ble (off + n) cs.length with
      | true => some (.agg ((cs.drop off).take n))
      | false => none
    | none => none
  | some false => cs[off]?
  | none => none

def intBits (op : BinOp) (k : IntKind) (x y : Int) : Option AVal :=
  let a := BitVec.ofInt k.bits x
  let b := BitVec.ofInt k.bits y
  match op with
  | .and => some (.int k (k.wrap (a &&& b).toNat))
  | .or => some (.int k (k.wrap (a ||| b).toNat))
  | .xor => some (.int k (k.wrap (a ^^^ b).toNat))
  | .andNot => some (.int k (k.wrap (a &&& ~~~b).toNat))
  | _ => none

def eqI : Int → Int → Bool
  | .ofNat a, .ofNat b => Nat.beq a b
  | .negSucc a, .negSucc b => Nat.beq a b
  | _, _ => false

def ltI : Int → Int → Bool
  | .ofNat a, .ofNat b => Nat.blt a b
  | .ofNat _, .negSucc _ => false
  | .negSucc _, .ofNat _ => true
  | .negSucc a, .negSucc b => Nat.blt b a

def intOp (op : BinOp) (k : IntKind) (x y : Int) : Option AVal :=
  match op with
  | .add => some (.int k (k.wrap (x + y)))
  | .sub => some (.int k (k.wrap (x - y)))
  | .mul => some (.int k (k.wrap (x * y)))
  | .quo => if y = 0 then none else some (.int k (k.wrap (x.tdiv y)))
  | .rem => if y = 0 then none else some (.int k (x.tmod y))
  | .eql => some (.bool (eqI x y))
  | .neq => some (.bool (!eqI x y))
  | .lss => some (.bool (ltI x y))
  | .leq => some (.bool (!ltI y x))
  | .gtr => some (.bool (ltI y x))
  | .geq => some (.bool (!ltI x y))
  | op => intBits op k x y

def shiftOp (op : BinOp) (k : IntKind) (x y : Int) : Option AVal :=
  if y < 0 then none else
  match op with
  | .shl => some (.int k (k.wrap (x * 2 ^ min y.toNat k.bits)))
  | .shr => some (.int k (x.fdiv (2 ^ min y.toNat k.bits)))
  | _ => none

def bytesLt : List UInt8 → List UInt8 → Bool
  | _, [] => false
  | [], _ :: _ => true
  | a :: x, b :: y => match Nat.blt a.toNat b.toNat with
    | true => true
    | false => match Nat.beq a.toNat b.toNat with
      | true => bytesLt x y
      | false => false

def bytesEq : List UInt8 → List UInt8 → Bool
  | [], [] => true
  | a :: x, b :: y => match Nat.beq a.toNat b.toNat with
    | true => bytesEq x y
    | false => false
  | _, _ => false

def strOp (op : BinOp) (x y : List UInt8) : Option AVal :=
  match op with
  | .add => match Nat.ble (x.length + y.length) 9223372036854775807 with
    | true => some (.str (x ++ y))
    | false => none
  | .eql => some (.bool (bytesEq x y))
  | .neq => some (.bool (!bytesEq x y))
  | .lss => some (.bool (bytesLt x y))
  | .leq => some (.bool (bytesLt x y || bytesEq x y))
  | .gtr => some (.bool (!(bytesLt x y || bytesEq x y)))
  | .geq => some (.bool (!bytesLt x y))
  | _ => none

/-- Equality of what lies in cells, where it is plain: a type, two values. -/
def eqCell (d : TypeDesc) (x y : AVal) : Option Bool :=
  match d, x, y with
  | .bool, .bool a, .bool b => some (a == b)
  | .int _, .int k a, .int k' b => if k = k' then some (a == b) else none
  | .string, .str a, .str b => some (bytesEq a b)
  | .pointer _, .nptr, .nptr => some true
  | .pointer _, .nptr, .ptr _ _ => some false
  | .pointer _, .ptr _ _, .nptr => some false
  | .interface _, .niface, .iface _ _ => some false
  | .interface _, .iface _ _, .niface => some false
  | .slice _, .nslice, .nslice => some true
  | .slice _, .nslice, .slice .. => some false
  | .slice _, .slice .., .nslice => some false
  | .map _ _, .nmap, .nmap => some true
  | .map _ _, .nmap, .map _ => some false
  | .map _ _, .map _, .nmap => some false
  | .func _ _ _, .nfunc, .nfunc => some true
  | .func _ _ _, .nfunc, .func _ _ _ => some false
  | .func _ _ _, .func _ _ _, .nfunc => some false
  | _, _, _ => none

/-- Equality of two structs of plain fields. -/
def eqFieldsA (T : Tab) (as bs : List AVal) : List Field → Option Bool
  | [] => some true
  | f :: r => match T.und f.type, partOf T f.type as f.offset, partOf T f.type bs f.offset with
    | some d, some x, some y => match eqCell d x y with
      | some true => eqFieldsA T as bs r
      | some false => some false
      | none => none
    | _, _, _ => none

/-- Equality of two rows of plain cells. -/
def eqRowA (d : TypeDesc) : List AVal → List AVal → Option Bool
  | [], [] => some true
  | x :: as, y :: bs => match eqCell d x y with
    | some true => eqRowA d as bs
    | some false => some false
    | none => none
  | _, _ => none

def eqOp (T : Tab) (t : TypeId) (x y : Operand) (a b : AVal) : Option Bool :=
  match T.und t with
  | none => none
  | some d => match d, a, b with
    | .interface _, .niface, .niface => match x, y with
      | .const _, _ => some true
      | _, .const _ => some true
      | _, _ => none
    | .interface _, .iface t1 v1, .iface t2 v2 => if t1 = t2 then
        match T.info t1, T.und t1 with
        | some i, some d1 => match i.comparable with
          | true => eqCell d1 v1 v2
          | false => none
        | _, _ => none
      else some false
    | .pointer e, .ptr b1 o1, .ptr b2 o2 => match T.size e with
      | some (_ + 1) => if b1 = b2 then some (o1 == o2) else none
      | _ => none
    | .struct fs, .agg as, .agg bs => match T.eqs t with
      | true => eqFieldsA T as bs fs.toList
      | false => none
    | .array n e, .agg as, .agg bs => match T.eqs t, T.isAgg e, T.size e, T.und e with
      | true, some false, some 1, some d => match Nat.beq as.length n && Nat.beq bs.length n with
        | true => eqRowA d as bs
        | false => none
      | _, _, _, _ => none
    | d, a, b => eqCell d a b

def binop (T : Tab) (op : BinOp) (t : TypeId) (x y : Operand) (a b : AVal) : Option AVal :=
  match op with
  | .shl => match a, b with | .int k u, .int _ v => shiftOp .shl k u v | _, _ => none
  | .shr => match a, b with | .int k u, .int _ v => shiftOp .shr k u v | _, _ => none
  | op => match a, b with
    | .int k u, .int k' v => if k = k' then intOp op k u v else none
    | .str u, .str v => strOp op u v
    | a, b => match op with
      | .eql => (eqOp T t x y a b).map .bool
      | .neq => (eqOp T t x y a b).map fun r => .bool !r
      | _ => none

def unop (op : UnOp) (x : AVal) : Option AVal :=
  match op, x with
  | .neg, .int k n => some (.int k (k.wrap (0 - n)))
  | .xor, .int k n => intBits .xor k (if k.signed then -1 else k.max) n
  | .not, .bool b => some (.bool !b)
  | _, _ => none

/-- A bound of a slice expression: below some most. -/
def bound (x : AVal) (most : Nat) : Option Nat :=
  match x with
  | .int _ (.ofNat i) => match Nat.ble i most with
    | true => some i
    | false => none
  | _ => none

def boundOr (x : Option AVal) (most dflt : Nat) : Option Nat :=
  match x with
  | some v => bound v most
  | none => some dflt

def bounds2 (len most : Nat) (lo hi : Option AVal) : Option (Nat × Nat) :=
  match boundOr hi most len with
  | none => none
  | some h => match boundOr lo h 0 with
    | none => none
    | some l => some (l, h)

def bounds3 (most : Nat) (lo : Option AVal) (hi mx : AVal) : Option (Nat × Nat × Nat) :=
  match bound mx most with
  | none => none
  | some m => match bound hi m with
    | none => none
    | some h => match boundOr lo h 0 with
      | none => none
      | some l => some (l, h, m)

def sliceOp (T : Tab) (t : TypeId) (x : AVal) (lo hi mx : Option AVal) : Option AVal :=
  match T.und t, x with
  | some .string, .str s => match mx with
    | some _ => none
    | none => match bounds2 s.length s.length lo hi with
      | some (l, h) => some (.str ((s.take h).drop l))
      | none => none
  | some (.slice e), .nslice => match T.size e with
    | none => none
    | some _ => match mx, hi with
      | none, hi => match bounds2 0 0 lo hi with
        | some _ => some .nslice
        | none => none
      | some v, some u => match bounds3 0 lo u v with
        | some _ => some .nslice
        | none => none
      | _, _ => none
  | some (.slice e), .slice b o len esz cap =>
    match T.size e with
    | none => none
    | some n => match Nat.beq n esz with
      | false => none
      | true => match mx, hi with
        | none, hi => match bounds2 len cap.low lo hi with
          | some (l, h) => some (.slice b (o + l * esz) (h - l) esz (cap.less l))
          | none => none
        | some v, some u => match bounds3 cap.low lo u v with
          | some (l, h, m) => some (.slice b (o + l * esz) (h - l) esz (.exact (m - l)))
          | none => none
        | _, _ => none
  | _, _ => none

def fieldAddrOp (T : Tab) (s : TypeId) (x : AVal) (f : Nat) : Option AVal :=
  match T.und s, x with
  | some (.struct fs), .ptr b o => match fs[f]? with
    | some fd => match T.size fd.type with
      | some (_ + 1) => some (.ptr b (o + fd.offset))
      | _ => none
    | none => none
  | _, _ => none

def fieldOp (T : Tab) (t : TypeId) (x : AVal) (f : Nat) : Option AVal :=
  match T.und t, x with
  | some (.struct fs), .agg cs => match fs[f]? with
    | some fd => partOf T fd.type cs fd.offset
    | none => none
  | _, _ => none

def indexAddrOp (T : Tab) (t : TypeId) (x i : AVal) : Option AVal :=
  match i with
  | .int _ i => match T.und t, x with
    | some (.array n e), .ptr b o => match T.size e with
      | some esz => if 0 ≤ i ∧ i < n then some (.ptr b (o + i.toNat * esz)) else none
      | none => none
    | some (.slice e), .slice b o len esz _ => match T.size e with
      | some n => match Nat.beq n esz with
        | true => if 0 ≤ i ∧ i < len then some (.ptr b (o + i.toNat * esz)) else none
        | false => none
      | none => none
    | _, _ => none
  | _ => none

def indexOp (T : Tab) (t : TypeId) (x i : AVal) : Option AVal :=
  match i with
  | .int _ i => match T.und t, x with
    | some (.array n e), .agg cs => match T.size e with
      | some esz => if 0 ≤ i ∧ i < n then partOf T e cs (i.toNat * esz) else none
      | none => none
    | some .string, .str s => if 0 ≤ i then match s[i.toNat]? with
        | some b => some (.int .u8 b.toNat)
        | none => none
      else none
    | _, _ => none
  | _ => none

def assertOp (T : Tab) (x : AVal) (asserted : TypeId) (commaOk : Bool) : Option AVal :=
  match T.und asserted with
  | none | some (.interface _) => none
  | some _ => match x with
    | .niface => match commaOk with
      | true => (T.zero asserted).map fun z => .tuple [z, .bool false]
      | false => none
    | .iface t v => if t = asserted then some (match commaOk with | true => .tuple [v, .bool true] | false => v)
      else match commaOk with
        | true => (T.zero asserted).map fun z => .tuple [z, .bool false]
        | false => none
    | _ => none

/-- Cells laid over others from a place on. -/
def over (cs : List AVal) (off : Nat) (vs : List AVal) : List AVal := cs.take off ++ vs ++ cs.drop (off + vs.length)

def fillOp (place : Nat → Option (Nat × Nat)) (cs : List AVal) : List (Nat × AVal) → Option (List AVal)
  | [] => some cs
  | (i, v) :: rest => match place i with
    | none => none
    | some (off, size) => match v with
      | .any | .tuple _ => none
      | v => match Nat.beq v.cells.length size && Nat.ble (off + v.cells.length) cs.length with
        | true => fillOp place (over cs off v.cells) rest
        | false => none

def placesOf (T : Tab) : List Field → Option (List (Nat × Nat))
  | [] => some []
  | f :: fs => match T.size f.type, placesOf T fs with
    | some n, some r => some ((f.offset, n) :: r)
    | _, _ => none

def buildOp (T : Tab) (t : TypeId) (parts : List (Nat × AVal)) : Option AVal :=
  match T.zero t, T.und t with
  | some (.agg zs), some (.struct fs) => match placesOf T fs.toList with
    | some ps => (fillOp (fun i => ps[i]?) zs parts).map .agg
    | none => none
  | some (.agg zs), some (.array _ e) => match T.size e with
    | some n => (fillOp (fun i => some (i * n, n)) zs parts).map .agg
    | none => none
  | _, _ => none

def minInts : AVal → List AVal → Option AVal
  | x, [] => some x
  | x, y :: r => match x, y with
    | .int k a, .int _ b => minInts (.int k (if b < a then b else a)) r
    | _, _ => none

def maxInts : AVal → List AVal → Option AVal
  | x, [] => some x
  | x, y :: r => match x, y with
    | .int k a, .int _ b => maxInts (.int k (if b > a then b else a)) r
    | _, _ => none

def lenOp (T : Tab) (t : TypeId) (x : AVal) : Option AVal :=
  match T.und t, x with
  | some .string, .str s => some (.int .i64 s.length)
  | some (.array n _), _ => some (.int .i64 n)
  | some (.pointer a), _ => match T.und a with
    | some (.array n _) => some (.int .i64 n)
    | _ => none
  | some (.slice _), .nslice => some (.int .i64 0)
  | some (.slice _), .slice _ _ n _ _ => some (.int .i64 n)
  | some (.map _ _), .nmap => some (.int .i64 0)
  | _, _ => none

def capOp (T : Tab) (t : TypeId) (x : AVal) : Option AVal :=
  match T.und t, x with
  | some (.array n _), _ => some (.int .i64 n)
  | some (.slice _), .nslice => some (.int .i64 0)
  | some (.slice _), .slice _ _ _ _ (.exact n) => some (.int .i64 n)
  | _, _ => none

def convOp (T : Tab) (src dst : TypeId) (x : AVal) : Option AVal :=
  match T.und src, T.und dst, x with
  | some _, some (.int k), .int _ n => some (.int k (k.wrap n))
  | some _, some .string, .str s => some (.str s)
  | _, _, _ => none

def pureBuiltin (T : Tab) (b : Builtin) (ts : Array TypeId) (args : List AVal) : Option AVal :=
  match b, args with
  | .len, x :: _ => match ts[0]? with | some t => lenOp T t x | none => none
  | .cap, x :: _ => match ts[0]? with | some t => capOp T t x | none => none
  | .min, x :: r => minInts x r
  | .max, x :: r => maxInts x r
  | .unsafeSliceData, [.nslice] => some .nptr
  | .unsafeSliceData, [.slice b o _ _ c] => match c.low with | 0 => none | _ + 1 => some (.ptr b o)
  | _, _ => none

def evP (T : Tab) (t : Tree AVal) (o : Op) : Option AVal :=
  match o with
  | .move x | .assign x => some (ev T t x)
  | .pick c a b => match ev T t c with | .bool true => some (ev T t a) | .bool false => some (ev T t b) | _ => none
  | .nilCheck x => match ev T t x with
    | .ptr b o => some (.ptr b o)
    | .func (.func f) a b => some (.func (.func f) a b)
    | .iface u v => some (.iface u v)
    | _ => none
  | .binOp op xt x y _ => binop T op xt x y (ev T t x) (ev T t y)
  | .unOp op _ x => unop op (ev T t x)
  | .convert a b x => convOp T a b (ev T t x)
  | .makeInterface xt x => match T.und xt with
    | some (.interface _) | none => none
    | some _ => some (.iface xt (ev T t x))
  | .makeFunc fn first captured => some (.func fn (evList T t first) (evList T t captured))
  | .slice xt x lo hi mx => sliceOp T xt (ev T t x) (lo.map (ev T t)) (hi.map (ev T t)) (mx.map (ev T t))
  | .fieldAddr s x f => fieldAddrOp T s (ev T t x) f
  | .field s x f => fieldOp T s (ev T t x) f
  | .indexAddr xt x i => indexAddrOp T xt (ev T t x) (ev T t i)
  | .index xt x i => indexOp T xt (ev T t x) (ev T t i)
  | .typeAssert x _ at_ ok => assertOp T (ev T t x) at_ ok
  | .extract x i => match ev T t x with | .tuple vs => vs[i]? | _ => none
  | .build u parts => buildOp T u (parts.toList.map fun p => (p.1, ev T t p.2))
  | .call c => match c.callee with
    | .builtin b => pureBuiltin T b c.argTypes (evList T t c.args)
    | _ => none
  | _ => none

/-! ### Reading operations -/
def rowOf (g : Nat → Option ABlk) (b o n : Nat) : Option (List AVal) :=
  match g b with
  | some (.cells _ vs _ _ _) => match Nat.ble (o + n) vs.length with
    | true => some ((vs.drop o).take n)
    | false => none
  | _ => none

def loadOp (T : Tab) (g : Nat → Option ABlk) (t : TypeId) (x : AVal) : Option AVal :=
  match x with
  | .ptr b o => match T.isAgg t with
    | some true => match T.size t with
      | some n => (rowOf g b o n).map .agg
      | none => none
    | some false => match g b with
      | some (.cells _ vs _ _ _) => vs[o]?
      | _ => none
    | none => none
  | _ => none

def bytesOf : List AVal → Option (List UInt8)
  | [] => some []
  | .int .u8 n :: r => match bytesOf r with
    | some l => some (UInt8.ofNat n.toNat :: l)
    | none => none
  | _ => none

/-- Equality of two plain cells, without a type. -/
def cellEq (x y : AVal) : Option Bool :=
  match x, y with
  | .int k a, .int k' b => if k = k' then some (a == b) else none
  | .str a, .str b => some (bytesEq a b)
  | .bool a, .bool b => some (a == b)
  | _, _ => none
def keyCells : List AVal → List AVal → Option Bool
  | [], [] => some true
  | x :: as, y :: bs => match cellEq x y with
    | some true => keyCells as bs
    | some false => some false
    | none => none
  | _, _ => none

def keyEq (d : TypeDesc) (x y : AVal) : Option Bool :=
  match d, x, y with
  | .int _, .int k a, .int k' b => if k = k' then some (a == b) else none
  | .string, .str a, .str b => some (bytesEq a b)
  | .bool, .bool a, .bool b => some (a == b)
  | .struct _, .agg as, .agg bs => keyCells as bs
  | _, _, _ => none

/-- A type's plain cell. -/
def cellFits (d : TypeDesc) (k : AVal) : Bool :=
  match d, k with
  | .string, .str _ => true
  | .int _, .int _ _ => true
  | .bool, .bool _ => true
  | _, _ => false
/-- A struct of plain fields, one cell each. -/
def keyFields (T : Tab) : List Field → List AVal → Nat → Bool
  | [], [], _ => true
  | f :: fs, c :: cs, i => match Nat.beq f.offset i, T.isAgg f.type, T.und f.type with
    | true, some false, some d => match cellFits d c with
      | true => keyFields T fs cs (i + 1)
      | false => false
    | _, _, _ => false
  | _, _, _ => false

def keyFits (T : Tab) (t : TypeId) (d : TypeDesc) (k : AVal) : Bool :=
  match d, k with
  | .string, .str _ => true
  | .int _, .int _ _ => true
  | .bool, .bool _ => true
  | .struct fs, .agg cs => match T.eqs t with
    | true => keyFields T fs.toList cs 0
    | false => false
  | _, _ => false

def findKey (d : TypeDesc) (x : AVal) : List (AVal × AVal) → Nat → Option (Option (Nat × AVal))
  | [], _ => some none
  | (k, v) :: r, i => match keyEq d x k with
    | some true => some (some (i, v))
    | some false => findKey d x r (i + 1)
    | none => none

def entriesOf (g : Nat → Option ABlk) (x : AVal) : Option (List (AVal × AVal)) :=
  match x with
  | .nmap => some []
  | .map b => match g b with
    | some (.map es _ _) => some es
    | _ => none
  | _ => none

def lookupOp (T : Tab) (g : Nat → Option ABlk) (t : TypeId) (x k : AVal) (commaOk : Bool) : Option AVal :=
  match T.und t with
  | some (.map kt et) => match T.und kt, T.zero et with
    | some d, some z =>
      match entriesOf g x with
      | none => none
      | some es => match keyFits T kt d k with
        | false => none
        | true => match findKey d k es 0 with
          | some (some (_, v)) => some (match commaOk with | true => .tuple [v, .bool true] | false => v)
          | some none => some (match commaOk with | true => .tuple [z, .bool false] | false => z)
          | none => none
    | _, _ => none
  | _ => none

/-- A piece of an array in memory. -/
def sliceArr (T : Tab) (g : Nat → Option ABlk) (t : TypeId) (x : AVal) (lo hi mx : Option AVal) : Option AVal :=
  match T.und t, x with
  | some (.array n e), .ptr b o => match T.size e, g b with
    | some esz, some (.cells _ vs _ _ _) => match Nat.ble (o + n * esz) vs.length with
      | true => match mx with
        | some _ => none
        | none => match bounds2 n n lo hi with
          | some (l, h) => some (.slice b (o + l * esz) (h - l) esz (.exact (n - l)))
          | none => none
      | false => none
    | _, _ => none
  | _, _ => none

/-- A pointer, as unsafe.Pointer and back. -/
def unsafeConv (T : Tab) (g : Nat → Option ABlk) (src dst : TypeId) (x : AVal) : Option AVal :=
  match T.und src, T.und dst with
  | some (.pointer t), some .unsafePointer => match x with
    | .nptr => some .nptr
    | .ptr b o => match g b, T.size t with
      | some (.cells _ vs _ _ _), some (_ + 1) => match Nat.blt o vs.length with
        | true => some (.ptr b o)
        | false => none
      | _, _ => none
    | _ => none
  | some .unsafePointer, some (.pointer u) => match x with
    | .nptr => some .nptr
    | .ptr b o => match g b, T.size u with
      | some (.cells e vs _ _ true), some _ => match liesAt T.prog T.prog.depth e (vs.length / T.prog.cellsOf e) o u 1 with
        | true => some (.ptr b o)
        | false => none
      | _, _ => none
    | _ => none
  | _, _ => none

/-- What a range over a map has just told, once more. -/
def entryOp (g : Nat → Option ABlk) (x : AVal) : Option AVal :=
  match x with
  | .ptr b 0 => match g b with
    | some (.miter (some mb) _ [sn] last) => match g mb with
      | some (.map [(k, v)] [bn] ck) => match Nat.beq sn bn && Nat.beq ck last with
        | true => some (.tuple [k, v])
        | false => none
      | _ => none
    | _ => none
  | _ => none

/-- Pointers into two different whole blocks, neither of which is a string's: they are not equal. -/
def apartPtr (T : Tab) (g : Nat → Option ABlk) (t : TypeId) (x y : AVal) : Bool :=
  match T.und t, x, y with
  | some (.pointer e), .ptr b1 o1, .ptr b2 o2 => match Nat.beq b1 b2, T.size e with
    | false, some (_ + 1) => match g b1, g b2 with
      | some (.cells _ vs1 false 0 true), some (.cells _ vs2 false 0 true) => Nat.blt o1 vs1.length && Nat.blt o2 vs2.length
      | _, _ => false
    | _, _ => false
  | _, _, _ => false

/-- A comparison that no value alone answers. -/
def cmpPtr (T : Tab) (g : Nat → Option ABlk) (op : BinOp) (t : TypeId) (x y : AVal) : Option AVal :=
  match op with
  | .eql => match apartPtr T g t x y with
    | true => some (.bool false)
    | false => none
  | .neq => match apartPtr T g t x y with
    | true => some (.bool true)
    | false => none
  | _ => none

def evR (T : Tab) (t : Tree AVal) (g : Nat → Option ABlk) (o : Op) : Option AVal :=
  match o with
  | .binOp op xt x y _ => match binop T op xt x y (ev T t x) (ev T t y) with
    | some v => some v
    | none => cmpPtr T g op xt (ev T t x) (ev T t y)
  | .load u x => loadOp T g u (ev T t x)
  | .entry x => entryOp g (ev T t x)
  | .lookup mt x k ok => lookupOp T g mt (ev T t x) (ev T t k) ok
  | .slice xt x lo hi mx => sliceArr T g xt (ev T t x) (lo.map (ev T t)) (hi.map (ev T t)) (mx.map (ev T t))
  | .convert a b x => match T.und a, T.und b, ev T t x with
    | some (.slice e), some .string, x => match T.und e, x with
      | some (.int .u8), .nslice => some (.str [])
      | some (.int .u8), .slice b o len 1 _ => match rowOf g b o len with
        | some cs => (bytesOf cs).map .str
        | none => none
      | _, _ => none
    | _, _, x => unsafeConv T g a b x
  | .call c => match c.callee, evList T t c.args with
    | .builtin .len, .map b :: _ => match c.argTypes[0]? with
      | some mt => match T.und mt with
        | some (.map _ _) => match g b with
          | some (.map es _ _) => some (.int .i64 es.length)
          | _ => none
        | _ => none
      | none => none
    | .builtin .len, .chan b :: _ => match c.argTypes[0]? with
      | some mt => match T.und mt with
        | some (.chan _ _) => match g b with
          | some (.chan _ buf) => some (.int .i64 buf.length)
          | _ => none
        | _ => none
      | none => none
    | _, _ => none
  | _ => none

/-! ### Operations that make one block and read nothing -/
def repeatCells (z : List AVal) : Nat → List AVal
  | 0 => []
  | n + 1 => z ++ repeatCells z n

def evA (T : Tab) (t : Tree AVal) (id : Nat) (o : Op) : Option (AVal × ABlk) :=
  match o with
  | .alloc e => match T.zero e with
    | none | some .any | some (.tuple _) => none
    | some z => some (.ptr id 0, .cells e z.cells false 0 true)
  | .box e x => match ev T t x with
    | .any | .tuple _ => none
    | v => some (.ptr id 0, .cells e v.cells false 0 true)
  | .buildSlice st len parts => match T.und st with
    | some (.slice e) => match T.size e, T.zero e with
      | some n, some z => match Nat.ble (len * n) 16777216 && Nat.beq z.cells.length n && z.fine with
        | true => (fillOp (fun i => some (i * n, n)) (repeatCells z.cells len) (parts.toList.map fun p => (p.1, ev T t p.2))).map
            fun cs => (.slice id 0 len n (.exact len), .cells e cs false 0 false)
        | false => none
      | _, _ => none
    | _ => none
  | .makeMap mt r => match r with
    | none => some (.map id, .map [] [] 0)
    | some x => match T.und mt, ev T t x with
      | some (.map _ _), .int _ _ => some (.map id, .map [] [] 0)
      | _, _ => none
  | .makeSlice st l c => match T.und st, ev T t l, ev T t c with
    | some (.slice e), .int _ l, .int _ c => match T.info e, T.zero e with
      | some i, some z =>
        if 0 ≤ l ∧ l ≤ c ∧ c ≤ 1099511627776 ∧ i.bytes * c ≤ 281474976710656 then
          match Nat.beq z.cells.length i.size && z.fine with
          | true => some (.slice id 0 l.toNat i.size (.exact c.toNat), .cells e (repeatCells z.cells c.toNat) false 0 false)
          | false => none
        else none
      | _, _ => none
    | _, _, _ => none
  | .convert a b x => match T.und a, T.und b, ev T t x with
    | some .string, some (.slice e), .str s => match T.und e with
      | some (.int .u8) => match Nat.ble s.length 1099511627776 with
        | true => some (.slice id 0 s.length 1 (.least s.length), .cells e (s.map fun b => .int .u8 b.toNat) false 0 false)
        | false => none
      | _ => none
    | _, _, _ => none
  | .range xt x => match T.und xt, ev T t x with
    | some .string, .str s => some (.ptr id 0, .iter s 0)
    | _, _ => none
  | .makeChan ct s => match T.und ct, ev T t s with
    | some (.chan _ e), .int _ n => match T.info e with
      | some i => if 0 ≤ n ∧ n ≤ 1099511627776 ∧ i.bytes * n ≤ 281474976710544 then some (.chan id, .chan n.toNat []) else none
      | none => none
    | _, _ => none
  | _ => none

/-! ### Operations that write -/
inductive Res where
  | val (v : AVal) (m : AMem)
  | call (f : FuncId) (args : List AVal)
  | pan (v : AVal)
  | fail

def storeOp (T : Tab) (m : AMem) (t : TypeId) (x v : AVal) : Res :=
  match x with
  | .ptr b o => match v with
    | .any | .tuple _ => .fail
    | v => match T.size t, m.get b with
      | some n, some (.cells e vs false frz wh) =>
        match Nat.beq v.cells.length n && v.cells.all AVal.one && Nat.ble frz o && Nat.ble (o + n) vs.length with
        | true => .val .any (m.set b (.cells e (over vs o v.cells) false frz wh))
        | false => .fail
      | _, _ => .fail
  | _ => .fail

/-- The cells that are appended. -/
def sourceOf (m : AMem) (esz : Nat) (x : AVal) : Option (Nat × List AVal) :=
  match x with
  | .nslice => some (0, [])
  | .slice b o len e _ => match Nat.beq e esz with
    | true => match rowOf m.get b o (len * esz) with
      | some cs => match cs.all AVal.one with
        | true => some (len, cs)
        | false => none
      | none => none
    | false => none
  | .str s => match esz with
    | 1 => some (s.length, s.map fun b => .int .u8 b.toNat)
    | _ => none
  | _ => none

def appendOp (T : Tab) (m : AMem) (ts : Array TypeId) (args : List AVal) : Res :=
  match args, ts[0]?, ts[1]? with
  | [s, x], some st, some xt => match T.und st, T.und xt with
    | some (.slice e), some xd => match (match xd with | .slice _ | .string => true | _ => false), T.info e, T.zero e with
      | true, some i, some z => match Nat.beq z.cells.length i.size && z.fine, sourceOf m i.size x with
        | true, some (n, cs) => match n with
          | 0 => match s with
            | .nslice => .val .nslice m
            | .slice b o len esz c => .val (.slice b o len esz c) m
            | _ => .fail
          | _ + 1 => match s with
            | .nslice => match Nat.ble n 1099511627776 && Nat.ble (n * i.bytes) 70368744177664 && Nat.ble i.bytes 1073741824 with
              | true => .val (.slice m.next 0 n i.size (.least n)) (m.new (.cells e cs false 0 false))
              | false => .fail
            | .slice b o len esz c => match Nat.beq esz i.size && Nat.ble (len + n) 1099511627776 && Nat.ble ((len + n) * i.bytes) 70368744177664 && Nat.ble i.bytes 1073741824 with
              | false => .fail
              | true => match m.get b with
                | some (.cells eb vs ro frz wh) =>
                  match Nat.ble (o + len * esz) vs.length with
                  | false => .fail
                  | true => match Nat.ble (len + n) c.low with
                    | true => match !ro && Nat.ble frz (o + len * esz) with
                      | true => .val (.slice b o (len + n) esz c) (m.set b (.cells eb (over vs (o + len * esz) cs) false frz wh))
                      | false => .fail
                    | false => match ((vs.drop o).take (len * esz)).all AVal.one with
                      | false => .fail
                      | true => match c with
                        | .exact _ => .val (.slice m.next 0 (len + n) esz (.least (len + n))) (m.new (.cells e ((vs.drop o).take (len * esz) ++ cs) false 0 false))
                        | .least _ => match !ro && Nat.ble frz (o + len * esz) && Nat.beq eb e with
                          | true => .val (.slice m.next 0 (len + n) esz (.least (len + n))) ((m.kill b).new (.cells e ((vs.drop o).take (len * esz) ++ cs) false (frz - o) false))
                          | false => .fail
                | _ => .fail
            | _ => .fail
        | _, _ => .fail
      | _, _, _ => .fail
    | _, _ => .fail
  | _, _, _ => .fail

/-- The first cells of what is copied from. -/
def firstOf (m : AMem) (n k : Nat) (x : AVal) : Option (List AVal) :=
  match x with
  | .nslice => match k with
    | 0 => some []
    | _ + 1 => none
  | .slice b o len e _ => match Nat.beq e n && Nat.ble k len with
    | true => rowOf m.get b o (k * n)
    | false => none
  | .str s => match n with
    | 1 => match Nat.ble k s.length with
      | true => some ((s.take k).map fun c => .int .u8 c.toNat)
      | false => none
    | _ => none
  | _ => none

def lenOfA (x : AVal) : Option Nat :=
  match x with
  | .nslice => some 0
  | .slice _ _ l _ _ => some l
  | .str s => some s.length
  | _ => none

def copyOp (T : Tab) (m : AMem) (ts : Array TypeId) (args : List AVal) : Res :=
  match args, ts[0]? with
  | [d, x], some dt => match T.und dt with
    | some (.slice e) => match T.size e, lenOfA x, d with
      | some n, some xl, .slice b o len esz _ => match Nat.beq esz n, firstOf m n (min xl len) x with
        | true, some cs => match cs with
          | [] => .val (.int .i64 ((min xl len : Nat) : Int)) m
          | c :: cs => match m.get b with
            | some (.cells e vs false frz wh) => match (c :: cs).all AVal.one && Nat.ble frz o && Nat.ble (o + min xl len * n) vs.length with
              | true => .val (.int .i64 ((min xl len : Nat) : Int)) (m.set b (.cells e (over vs o (c :: cs)) false frz wh))
              | false => .fail
            | _ => .fail
        | _, _ => .fail
      | _, _, _ => .fail
    | _ => .fail
  | _, _ => .fail

def setNth (es : List (AVal × AVal)) (i : Nat) (k v : AVal) : List (AVal × AVal) :=
  match es, i with
  | [], _ => []
  | _ :: r, 0 => (k, v) :: r
  | e :: r, i + 1 => e :: setNth r i k v

def mapUpdateOp (T : Tab) (m : AMem) (mt : TypeId) (x k v : AVal) : Res :=
  match T.und mt with
  | some (.map kt _) => match T.und kt, x with
    | some d, .map b => match m.get b with
      | some (.map es bs ck) => match keyFits T kt d k with
        | false => .fail
        | true => match findKey d k es 0 with
          | some (some (i, _)) => .val .any (m.set b (.map (setNth es i k v) bs ck))
          | some none => .val .any (m.set b (.map (es ++ [(k, v)]) (bs ++ [ck]) (ck + 1)))
          | none => .fail
      | _ => .fail
    | _, _ => .fail
  | _ => .fail

/-- One letter of a string that is ranged over (ASCII alone here; else the model's own decode). -/
def nextOp (m : AMem) (x : AVal) (isString : Bool) : Res :=
  match x, isString with
  | .ptr b 0, true => match m.get b with
    | some (.iter s pos) => match Nat.blt pos s.length with
      | true =>
        let cw := Utf8.decode ⟨s.toArray⟩ pos
        .val (.tuple [.bool true, .int .i64 pos, .int .i32 cw.1]) (m.set b (.iter s (pos + cw.2)))
      | false => .val (.tuple [.bool false]) m
    | _ => .fail
  | .ptr b 0, false => match m.get b with
    | some (.miter none _ _ _) => .val (.tuple [.bool false]) m
    | some (.miter (some mb) since seen last) => match m.get mb with
      | some (.map [] _ _) => .val (.tuple [.bool false]) m
      | some (.map [(k, v)] [bn] ck) => match seen with
        | [] => match Nat.blt bn since with
          | true => .val (.tuple [.bool true, k, v]) (m.set b (.miter (some mb) since [bn] ck))
          | false => .fail
        | [sn] => match Nat.beq sn bn && Nat.blt bn last with
          | true => .val (.tuple [.bool false]) m
          | false => .fail
        | _ => .fail
      | _ => .fail
    | _ => .fail
  | _, _ => .fail

/-- A map that is ranged over: at most one entry is told (with more the order is drawn). -/
def rangeMap (T : Tab) (m : AMem) (t : TypeId) (x : AVal) : Res :=
  match T.und t with
  | some (.map _ _) => match x with
    | .nmap => .val (.ptr m.next 0) (m.new (.miter none 0 [] 0))
    | .map b => match m.get b with
      | some (.map _ _ ck) => .val (.ptr m.next 0) (m.new (.miter (some b) ck [] ck))
      | _ => .fail
    | _ => .fail
  | _ => .fail

/-- Cells that become zero. -/
def clearOp (T : Tab) (m : AMem) (ts : Array TypeId) (args : List AVal) : Res :=
  match args, ts[0]? with
  | [x], some st => match T.und st with
    | some (.slice e) => match x with
      | .nslice => .val (.tuple []) m
      | .slice b o len esz _ => match len with
        | 0 => .val (.tuple []) m
        | _ + 1 => match T.info e, T.zero e, m.get b with
          | some i, some z, some (.cells eb vs false frz wh) =>
            match Nat.beq esz i.size && Nat.beq z.cells.length i.size && z.fine && z.cells.all AVal.one && Nat.ble frz o && Nat.ble (o + len * esz) vs.length with
            | true => .val (.tuple []) (m.set b (.cells eb (over vs o (repeatCells z.cells len)) false frz wh))
            | false => .fail
          | _, _, _ => .fail
      | _ => .fail
    | _ => .fail
  | _, _ => .fail

def unsafeStringOp (T : Tab) (m : AMem) (ts : Array TypeId) (args : List AVal) : Res :=
  match ts.toList, args with
  | [_, _], [.nptr, .int _ n] => if n = 0 then .val (.str []) m else .fail
  | [pt, _], [.ptr b o, .int _ n] => if n = 0 then .val (.str []) m else
    if n < 0 ∨ n > 9223372036854775807 then .fail else
    match m.get b with
    | some (.cells e vs false frz wh) => match T.und pt, T.size e with
      | some (.pointer u), some 1 => match Nat.beq e u, rowOf m.get b o n.toNat with
        | true, some cs => match bytesOf cs with
          | some l => .val (.str l) (m.set b (.cells e vs true frz wh))
          | none => .fail
        | _, _ => .fail
      | _, _ => .fail
    | _ => .fail
  | _, _ => .fail

def evW (T : Tab) (t : Tree AVal) (m : AMem) (o : Op) : Res :=
  match o with
  | .store u a x => storeOp T m u (ev T t a) (ev T t x)
  | .mapUpdate mt x k v => mapUpdateOp T m mt (ev T t x) (ev T t k) (ev T t v)
  | .insert mt x k v => mapUpdateOp T m mt (ev T t x) (ev T t k) (ev T t v)
  | .next it s => nextOp m (ev T t it) s
  | .range xt x => rangeMap T m xt (ev T t x)
  | .panic x => match ev T t x with | .iface u v => .pan (.iface u v) | _ => .fail
  | .call c => match c.callee with
    | .value f => match ev T t f with
      | .func (.func g) first captured => .call g (first ++ evList T t c.args ++ captured)
      | _ => .fail
    | .builtin .append => appendOp T m c.argTypes (evList T t c.args)
    | .builtin .copy => copyOp T m c.argTypes (evList T t c.args)
    | .builtin .clear => clearOp T m c.argTypes (evList T t c.args)
    | .builtin .unsafeString => unsafeStringOp T m c.argTypes (evList T t c.args)
    | _ => .fail
  | _ => .fail

/-- A select of one case with a default: the goroutine is alone. -/
def selectOp (T : Tab) (t : Tree AVal) (m : AMem) (cs : Array SelectCase) (bl : Bool) : Res :=
  match cs.toList, bl with
  | [c], false => match ev T t c.chan, T.zero c.elem with
    | .chan b, some z => match m.get b with
      | some (.chan cap buf) => match c.send with
        | some x => match Nat.blt buf.length cap with
          | true => .val (.tuple [.int .i64 0, .bool false]) (m.set b (.chan cap (buf ++ [ev T t x])))
          | false => .val (.tuple [.int .i64 (-1), .bool false]) m
        | none => match buf with
          | [] => .val (.tuple [.int .i64 (-1), .bool false, z]) m
          | v :: r => .val (.tuple [.int .i64 0, .bool true, v]) (m.set b (.chan cap r))
      | _ => .fail
    | _, _ => .fail
  | _, _ => .fail

/-- A region that begins with a select. -/
def selOf : List Oper → Option (Oper × Array SelectCase × Bool × List Oper)
  | o :: rest => match o.op, o.guard with
    | .select cs bl, none => some (o, cs, bl, rest)
    | _, _ => none
  | [] => none

/-! ### Which kind an operation is of: by its form and its types alone -/
inductive Kd where
  | p | r | a | w

/-- Pointers are compared by memory. -/
def ptrKind (T : Tab) (t : TypeId) : Kd :=
  match T.und t with
  | some (.pointer _) => .r
  | _ => .p

def kindOf (T : Tab) (o : Op) : Kd :=
  match o with
  | .binOp .eql t _ _ _ => ptrKind T t
  | .binOp .neq t _ _ _ => ptrKind T t
  | .load .. | .lookup .. | .entry _ => .r
  | .alloc _ | .box .. | .buildSlice .. | .makeMap .. | .makeSlice .. | .makeChan .. => .a
  | .range t _ => match T.und t with | some (.map _ _) => .w | _ => .a
  | .convert a b _ => match T.und a, T.und b with
    | some (.slice _), _ => .r
    | some .string, some (.slice _) => .a
    | some .unsafePointer, _ => .r
    | _, some .unsafePointer => .r
    | _, _ => .p
  | .store .. | .mapUpdate .. | .insert .. | .next .. | .panic _ => .w
  | .slice t .. => match T.und t with | some (.array _ _) => .r | _ => .p
  | .call c => match c.callee with
    | .builtin .len => match c.argTypes[0]? with
      | some t => match T.und t with | some (.map _ _) => .r | some (.chan _ _) => .r | _ => .p
      | none => .p
    | .builtin .cap | .builtin .min | .builtin .max | .builtin .unsafeSliceData => .p
    | _ => .w
  | _ => .p

/-! ### Regions -/
def wantedOp (ops : Array Oper) (t : Tree AVal) (o : Oper) : Option Bool :=
  match o.guard with
  | none => some true
  | some (j, want) => match ops[j]? with
    | some oj => match oj.dst with
      | some d => match t.get d with
        | some (.bool b) => some (b == want)
        | some .any => none
        | some _ => some false
        | none => none
      | none => none
    | none => none

def putDst (n : Nat) (t : Tree AVal) (d : Option Nat) (v : AVal) : Option (Tree AVal) :=
  match d with
  | none => some t
  | some d => match Nat.blt d n with
    | true => some (t.put d v)
    | false => none

/-- One operation, in the order of the text. -/
def evOne (T : Tab) (callF : FuncId → List AVal → AMem → Out AVal) (t : Tree AVal) (m : AMem) (o : Op) : Out AVal :=
  match kindOf T o with
  | .p => match evP T t o with | some v => .ok v m | none => .fail ""
  | .r => match evR T t m.get o with | some v => .ok v m | none => .fail ""
  | .a => match evA T t m.next o with | some (v, k) => .ok v (m.new k) | none => .fail ""
  | .w => match evW T t m o with
    | .val v m' => .ok v m'
    | .call f args => callF f args m
    | .pan v => .pan v m
    | .fail => .fail ""

def evOps (T : Tab) (callF : FuncId → List AVal → AMem → Out AVal) (n : Nat) (all : Array Oper) : List Oper → Tree AVal → AMem → Out (Tree AVal)
  | [], t, m => .ok t m
  | o :: rest, t, m => match wantedOp all t o with
    | none => .fail o.pos
    | some false => match putDst n t o.dst (.tuple []) with
      | some t' => evOps T callF n all rest t' m
      | none => .fail o.pos
    | some true => match evOne T callF t m o.op with
      | .ok v m' => match putDst n t o.dst v with
        | some t' => evOps T callF n all rest t' m'
        | none => .fail o.pos
      | .pan v m' => .pan v m'
      | .fail "" => .fail o.pos
      | .fail w => .fail w

/-! ### Regions that draw their order -/
def Cap.same : Cap → Cap → Bool
  | .exact a, .exact b => Nat.beq a b
  | .least a, .least b => Nat.beq a b
  | _, _ => false

def sameL (p : AVal → AVal → Bool) : List AVal → List AVal → Bool
  | [], [] => true
  | a :: as, b :: bs => match p a b with
    | true => sameL p as bs
    | false => false
  | _, _ => false

def sameF : Nat → AVal → AVal → Bool
  | 0, _, _ => false
  | f + 1, a, b =>
    match a, b with
    | .any, .any => true
    | .bool x, .bool y => x == y
    | .int k x, .int k' y => if k = k' then x == y else false
    | .str x, .str y => bytesEq x y
    | .nptr, .nptr => true
    | .ptr x o, .ptr y o' => match Nat.beq x y with
      | true => Nat.beq o o'
      | false => false
    | .nslice, .nslice => true
    | .slice x o l e c, .slice y o' l' e' c' => match Nat.beq x y, Nat.beq o o', Nat.beq l l', Nat.beq e e', Cap.same c c' with
      | true, true, true, true, true => true
      | _, _, _, _, _ => false
    | .nmap, .nmap => true
    | .map x, .map y => Nat.beq x y
    | .chan x, .chan y => Nat.beq x y
    | .func (.func g) f1 c1, .func (.func h) f2 c2 => match Nat.beq g h, sameL (sameF f) f1 f2, sameL (sameF f) c1 c2 with
      | true, true, true => true
      | _, _, _ => false
    | .nfunc, .nfunc => true
    | .iface t x, .iface u y => match Nat.beq t u with
      | true => sameF f x y
      | false => false
    | .niface, .niface => true
    | .agg x, .agg y => sameL (sameF f) x y
    | .tuple x, .tuple y => sameL (sameF f) x y
    | _, _ => false

def diff (a b : Nat) : Nat := Nat.xor (Nat.lor a b) b

/-- The memory with some of the blocks that lie beside it. -/
def view (base : Nat) (m : AMem) (f : Nat → Bool) : List (Nat × ABlk) → AMem
  | [] => m
  | (q, k) :: rest => match f q with
    | true => (view base m f rest).set (base + q) k
    | false => view base m f rest

def maskFrom (pre : Tree Nat) : List Edge → Option Nat
  | [] => some 0
  | e :: es => match Region.binds .any e with
    | false => maskFrom pre es
    | true => match pre.get e.on, maskFrom pre es with
      | some k, some m => some (Nat.lor (Nat.lor (2 ^ e.on) k) m)
      | _, _ => none

def masks : List Oper → Nat → Tree Nat → Option (Tree Nat)
  | [], _, p => some p
  | o :: rest, i, p => match maskFrom p o.after.toList with
    | some k => masks rest (i + 1) (p.put i k)
    | none => none

def whoOf : List Oper → Nat → Tree Nat → Option (Tree Nat)
  | [], _, w => some w
  | o :: rest, i, w => match o.dst with
    | none => whoOf rest (i + 1) w
    | some d => match w.get d with
      | some _ => none
      | none => whoOf rest (i + 1) (w.put d i)

def looksOk (pre who : Tree Nat) (i p : Nat) : List Nat → Bool
  | [] => true
  | u :: us => match who.get u with
    | none => looksOk pre who i p us
    | some j => match Nat.testBit p j with
      | true => looksOk pre who i p us
      | false => match pre.get j with
        | some pj => match Nat.testBit pj i with
          | true => looksOk pre who i p us
          | false => false
        | none => false

structure Stage where
  m : AMem
  abs : Nat
  wm : Nat

structure Rd where
  i : Nat
  p : Nat
  op : Op
  t : Tree AVal
  v : AVal
  kc : Nat

structure DS where
  t : Tree AVal
  made : List (Nat × ABlk)
  st : Stage
  old : List Stage
  reads : List Rd
  pan : Option (Nat × AVal × AMem)

def deadBy (pan : Option (Nat × AVal × AMem)) (p : Nat) : Bool :=
  match pan with
  | none => false
  | some x => Nat.testBit p x.1

def drawWant (T : Tab) (callF : FuncId → List AVal → AMem → Out AVal) (n base : Nat) (p i : Nat) (o : Oper) (ds : DS) : Except String DS :=
  match kindOf T o.op with
  | .p => match evP T ds.t o.op with
    | none => .error o.pos
    | some v => match putDst n ds.t o.dst v with
      | none => .error o.pos
      | some t' => .ok { ds with t := t' }
  | .r => match evR T ds.t (view base ds.st.m (Nat.testBit (diff p ds.st.abs)) ds.made).get o.op with
    | none => .error o.pos
    | some v => match putDst n ds.t o.dst v with
      | none => .error o.pos
      | some t' => .ok { ds with t := t', reads := ⟨i, p, o.op, ds.t, v, ds.old.length⟩ :: ds.reads }
  | .a => match evA T ds.t (base + i) o.op with
    | none => .error o.pos
    | some (v, b) => match putDst n ds.t o.dst v with
      | none => .error o.pos
      | some t' => .ok { ds with t := t', made := (i, b) :: ds.made }
  | .w => match ds.pan with
    | some _ => .error o.pos
    | none => match Nat.beq (Nat.land p ds.st.wm) ds.st.wm with
      | false => .error o.pos
      | true => match evOne T callF ds.t (view base ds.st.m (Nat.testBit (diff p ds.st.abs)) ds.made) o.op with
        | .ok v m' => match putDst n ds.t o.dst v with
          | none => .error o.pos
          | some t' => .ok { ds with t := t', st := ⟨m', Nat.lor p ds.st.abs, Nat.lor (2 ^ i) ds.st.wm⟩, old := ds.st :: ds.old }
        | .pan v m' => .ok { ds with pan := some (i, v, m') }
        | .fail "" => .error o.pos
        | .fail w => .error w

def drawStep (T : Tab) (callF : FuncId → List AVal → AMem → Out AVal) (n : Nat) (all : Array Oper) (base : Nat) (pre who : Tree Nat) (i : Nat) (o : Oper) (ds : DS) : Except String DS :=
  match pre.get i with
  | none => .error o.pos
  | some p => match looksOk pre who i p (o.looksAt all) with
    | false => .error o.pos
    | true => match deadBy ds.pan p with
      | true => .ok ds
      | false => match wantedOp all ds.t o with
        | none => .error o.pos
        | some false => match putDst n ds.t o.dst (.tuple []) with
          | none => .error o.pos
          | some t' => .ok { ds with t := t' }
        | some true => drawWant T callF n base p i o ds

def drawOps (T : Tab) (callF : FuncId → List AVal → AMem → Out AVal) (n : Nat) (all : Array Oper) (base : Nat) (pre who : Tree Nat) : List Oper → Nat → DS → Except String DS
  | [], _, ds => .ok ds
  | o :: rest, i, ds => match drawStep T callF n all base pre who i o ds with
    | .ok ds' => drawOps T callF n all base pre who rest (i + 1) ds'
    | .error w => .error w

def readOk (T : Tab) (base : Nat) (made : List (Nat × ABlk)) (wmEnd : Nat) (k : Nat) (s : Stage) (rd : Rd) : Bool :=
  match Nat.beq k rd.kc with
  | true => true
  | false => match Nat.testBit s.abs rd.i with
    | true => true
    | false => match Nat.beq (Nat.land (Nat.land rd.p wmEnd) s.wm) (Nat.land rd.p wmEnd) with
      | false => true
      | true => match evR T rd.t (view base s.m (Nat.testBit (diff rd.p s.abs)) made).get rd.op with
        | some v => sameF 100 v rd.v
        | none => false

def readsOk (T : Tab) (base : Nat) (made : List (Nat × ABlk)) (wmEnd : Nat) (k : Nat) (s : Stage) : List Rd → Bool
  | [] => true
  | rd :: rest => match readOk T base made wmEnd k s rd with
    | true => readsOk T base made wmEnd k s rest
    | false => false

def stagesOk (T : Tab) (base : Nat) (made : List (Nat × ABlk)) (wmEnd : Nat) (reads : List Rd) : List Stage → Bool
  | [] => true
  | s :: rest => match readsOk T base made wmEnd rest.length s reads with
    | true => stagesOk T base made wmEnd reads rest
    | false => false

def evDraw (T : Tab) (callF : FuncId → List AVal → AMem → Out AVal) (n : Nat) (ops : Array Oper) (t : Tree AVal) (m : AMem) : Out (Tree AVal) :=
  match masks ops.toList 0 .leaf, whoOf ops.toList 0 .leaf with
  | some pre, some who => match drawOps T callF n ops m.next pre who ops.toList 0 ⟨t, [], ⟨⟨m.next + ops.size, m.tree⟩, 0, 0⟩, [], [], none⟩ with
    | .error w => .fail w
    | .ok ds => match stagesOk T m.next ds.made ds.st.wm ds.reads (ds.st :: ds.old) with
      | false => .fail "read"
      | true => match ds.pan with
        | some (_, v, m') => .pan v m'
        | none => .ok ds.t (view m.next ds.st.m (Nat.testBit (diff (2 ^ ops.size - 1) ds.st.abs)) ds.made)
  | _, _ => .fail "order"

/-! A drawn region whose last four operations are a place, a store there, another place and a store there, behind all the rest: the two pairs in any order. -/
structure Tail where
  head : Array Oper
  p1 : Op
  d1 : Nat
  u1 : TypeId
  v1 : Operand
  p2 : Op
  d2 : Nat
  u2 : TypeId
  v2 : Operand

def isPlace (o : Op) : Bool :=
  match o with
  | .indexAddr .. | .fieldAddr .. => true
  | _ => false

/-- An operand is no one of two registers. -/
def offTmp (d1 d2 : Nat) (x : Operand) : Bool :=
  match x with
  | .tmp i => !Nat.beq i d1 && !Nat.beq i d2
  | _ => true

def hasEdge (o : Oper) (q : Nat) : Bool := o.after.any fun e => Region.binds .any e && Nat.beq e.on q
def edgesAll (h : Nat) (o : Oper) : Bool := (List.range h).all fun q => hasEdge o q
def edgesIn (ok : Nat → Bool) (o : Oper) : Bool := o.after.all fun e => !Region.binds .any e || ok e.on
def guardsIn (h : Nat) (o : Oper) : Bool :=
  match o.guard with
  | none => true
  | some (j, _) => Nat.blt j h
def noGuard (o : Oper) : Bool :=
  match o.guard with
  | none => true
  | some _ => false

/-- A place and a store there. -/
def pairOf (o o' : Oper) : Option (Op × Nat × TypeId × Operand) :=
  match o.dst, o'.dst, o'.op with
  | some d, none, .store u (.tmp d') v => match Nat.beq d' d && isPlace o.op && noGuard o && noGuard o' with
    | true => some (o.op, d, u, v)
    | false => none
  | _, _, _ => none

def cutOf (ops : Array Oper) : Option Tail :=
  match ops.toList.drop (ops.size - 4) with
  | [o1, o2, o3, o4] => match pairOf o1 o2, pairOf o3 o4 with
    | some (p1, d1, u1, v1), some (p2, d2, u2, v2) =>
      match !Nat.beq d1 d2 && p1.operands.toList.all (offTmp d1 d2) && p2.operands.toList.all (offTmp d1 d2) && offTmp d1 d2 v1 && offTmp d1 d2 v2
        && edgesAll (ops.size - 4) o1 && edgesAll (ops.size - 4) o2 && edgesAll (ops.size - 4) o3 && edgesAll (ops.size - 4) o4
        && edgesIn (fun q => Nat.blt q (ops.size - 4)) o1 && edgesIn (fun q => Nat.ble q (ops.size - 4)) o2 && edgesIn (fun q => Nat.blt q (ops.size - 4)) o3
        && edgesIn (fun q => Nat.blt q (ops.size - 4) || Nat.beq q (ops.size - 4 + 2)) o4 && hasEdge o2 (ops.size - 4) && hasEdge o4 (ops.size - 4 + 2)
        && (ops.extract 0 (ops.size - 4)).toList.all (guardsIn (ops.size - 4)) with
      | true => some ⟨ops.extract 0 (ops.size - 4), p1, d1, u1, v1, p2, d2, u2, v2⟩
      | false => none
    | _, _ => none
  | _ => none

def evTail (T : Tab) (n : Nat) (c : Tail) (t : Tree AVal) (m : AMem) : Out (Tree AVal) :=
  match evP T t c.p1, evP T t c.p2 with
  | some (.ptr b1 o1), some (.ptr b2 o2) => match Nat.beq b1 b2 with
    | true => .fail "tail"
    | false => match storeOp T m c.u1 (.ptr b1 o1) (ev T t c.v1) with
      | .val _ m1 => match storeOp T m1 c.u2 (.ptr b2 o2) (ev T t c.v2) with
        | .val _ m2 => match Nat.blt c.d1 n && Nat.blt c.d2 n with
          | true => .ok ((t.put c.d1 (.ptr b1 o1)).put c.d2 (.ptr b2 o2)) m2
          | false => .fail "tail"
        | _ => .fail "tail"
      | _ => .fail "tail"
  | _, _ => .fail "tail"

def evAny (T : Tab) (callF : FuncId → List AVal → AMem → Out AVal) (n : Nat) (ops : Array Oper) (t : Tree AVal) (m : AMem) : Out (Tree AVal) :=
  match cutOf ops with
  | none => evDraw T callF n ops t m
  | some c => match evDraw T callF n c.head t m with
    | .ok t' m' => evTail T n c t' m'
    | .pan v m' => .pan v m'
    | .fail w => .fail w

def evRegion (T : Tab) (callF : FuncId → List AVal → AMem → Out AVal) (n : Nat) (ops : Array Oper) (draw : Bool) (t : Tree AVal) (m : AMem) : Out (Tree AVal) :=
  match draw with
  | false => match selOf ops.toList with
    | none => evOps T callF n ops ops.toList t m
    | some (o, cs, bl, rest) => match selectOp T t m cs bl with
      | .val v m' => match putDst n t o.dst v with
        | some t' => evOps T callF n ops rest t' m'
        | none => .fail o.pos
      | _ => .fail o.pos
  | true => evAny T callF n ops t m

/-! ### Code -/
inductive Ex where
  | normal
  | exit (id : Nat)
  | goto (l : Nat)
  | ret

def iter (body : Tree AVal → AMem → Out (Ex × Tree AVal)) : Nat → Tree AVal → AMem → Out (Ex × Tree AVal)
  | 0, _, _ => .fail "fuel"
  | k + 1, t, m => match body t m with
    | .ok (.normal, t') m' => iter body k t' m'
    | r => r

def evCode (T : Tab) (callF : FuncId → List AVal → AMem → Out AVal) (fuel n : Nat) : Code → Tree AVal → AMem → Out (Ex × Tree AVal)
  | .skip, t, m => .ok (.normal, t) m
  | .region _ ops draw, t, m => match evRegion T callF n ops draw t m with
    | .ok t' m' => .ok (.normal, t') m'
    | .pan v m' => .pan v m'
    | .fail w => .fail w
  | .seq a b, t, m => match evCode T callF fuel n a t m with
    | .ok (.normal, t') m' => evCode T callF fuel n b t' m'
    | r => r
  | .cond c x y, t, m => match ev T t c with
    | .bool true => evCode T callF fuel n x t m
    | .bool false => evCode T callF fuel n y t m
    | _ => .fail "cond"
  | .block id c, t, m => match evCode T callF fuel n c t m with
    | .ok (.exit id', t') m' => if id' = id then .ok (.normal, t') m' else .ok (.exit id', t') m'
    | r => r
  | .loop c, t, m => iter (evCode T callF fuel n c) fuel t m
  | .exit id, t, m => .ok (.exit id, t) m
  | .ret, t, m => .ok (.ret, t) m
  | _, _, _ => .fail "code"

/-! ### Functions -/
def resultsOf (T : Tab) (t : Tree AVal) (m : AMem) : List ResultVar → Option (List AVal)
  | [] => some []
  | .tmp i :: r => match resultsOf T t m r with
    | some vs => some (ev T t (.tmp i) :: vs)
    | none => none
  | .cell a u :: r => match loadOp T m.get u (ev T t (.tmp a)), resultsOf T t m r with
    | some v, some vs => some (v :: vs)
    | _, _ => none

def oneResult : List AVal → AVal
  | [v] => v
  | vs => .tuple vs

def argTree (args : List AVal) : Tree AVal := Tree.ofList args

def evBody (T : Tab) (callF : FuncId → List AVal → AMem → Out AVal) (fuel : Nat) (fn : Func) (args : List AVal) (m : AMem) : Out AVal :=
  match fn.body with
  | none => .fail "body"
  | some c => match Nat.ble args.length fn.ntmps with
    | false => .fail "args"
    | true => match evCode T callF fuel fn.ntmps c (argTree args) m with
      | .ok (.normal, t) m' | .ok (.ret, t) m' => match resultsOf T t m' fn.results.toList with
        | some vs => .ok (oneResult vs) m'
        | none => .fail "results"
      | .ok _ _ => .fail "exit"
      | .pan v m' => .pan v m'
      | .fail w => .fail w

def evFn (T : Tab) : Nat → FuncId → List AVal → AMem → Out AVal
  | 0, _, _, _ => .fail "depth"
  | n + 1, f, args, m => match T.spec f with
    | some F => F args m
    | none => match T.fn f with
      | some fn => evBody T (evFn T n) n fn args m
      | none => .fail "fn"

def Out.isTrue : Out AVal → Bool
  | .ok (.bool true) _ => true
  | _ => false
end
end Ev
end Go.Proofs.YtjmapihogpdocaaGreatDoor

/-! ## EvRel -/
namespace Go.Proofs.YtjmapihogpdocaaGreatDoor
namespace Ev
/-- What code leaves as it is: the deferred calls, and some temporaries. -/
structure Keep where
  defers : List Deferred
  pin : Nat → Option Value
def Keep.none : Keep := ⟨[], fun _ => .none⟩
def Keep.calm (D : Keep) (a : Act) : Prop := a.defers = D.defers ∧ ∀ u v, D.pin u = some v → a.tmps.getD u undef = v
def Keep.frees (D : Keep) (ops : Array Oper) : Prop := ∀ (i : Nat) (o : Oper) (d : Nat), ops[i]? = some o → o.dst = some d → D.pin d = Option.none
theorem Keep.frees_none (ops : Array Oper) : Keep.none.frees ops := fun _ _ _ _ _ => rfl
theorem Keep.calm_none {a : Act} (h : a.defers = []) : Keep.none.calm a := ⟨h, fun _ _ e => by cases e⟩
theorem Keep.calm.put {D : Keep} {a : Act} (h : D.calm a) {d : Option Nat} (hf : ∀ d', d = some d' → D.pin d' = Option.none) (v : Value) : D.calm (a.put d v) := by
  cases d with
  | none => exact h
  | some d =>
    refine ⟨h.1, fun u x e => ?_⟩
    have hne : ¬ d = u := by intro c; subst c; rw [hf d rfl] at e; cases e
    simp only [Act.put]
    rw [Array.getD_eq_getD_getElem?, Array.getElem?_setIfInBounds, if_neg hne, ← Array.getD_eq_getD_getElem?]
    exact h.2 u x e

open Go
variable {D : Keep}

/-! ### Trees -/
theorem Tree.get_zero {α : Type} (l : Tree α) (v : Option α) (r : Tree α) : (Tree.node l v r).get 0 = v := rfl
theorem Tree.get_leaf {α : Type} (k : Nat) : (Tree.leaf : Tree α).get k = none := rfl
theorem Tree.get_succ {α : Type} (l : Tree α) (v : Option α) (r : Tree α) (k : Nat) : (Tree.node l v r).get (k + 1) = match Nat.beq (k % 2) 0 with | true => l.get (k / 2) | false => r.get (k / 2) := by
  show Bool.rec (motive := fun _ => Option α) (r.get (k / 2)) (l.get (k / 2)) (Nat.beq (k % 2) 0) = _
  cases Nat.beq (k % 2) 0 <;> rfl
theorem Tree.setF_zero {α : Type} (t : Tree α) (n : Nat) (x : Option α) : Tree.setF 0 t n x = t := rfl
theorem Tree.setF_leaf0 {α : Type} (f : Nat) (x : Option α) : Tree.setF (f + 1) .leaf 0 x = .node .leaf x .leaf := rfl
theorem Tree.setF_node0 {α : Type} (f : Nat) (l : Tree α) (v : Option α) (r : Tree α) (x : Option α) : Tree.setF (f + 1) (.node l v r) 0 x = .node l x r := rfl
theorem Tree.setF_leafS {α : Type} (f k : Nat) (x : Option α) : Tree.setF (f + 1) .leaf (k + 1) x = match Nat.beq (k % 2) 0 with | true => .node (Tree.setF f .leaf (k / 2) x) none .leaf | false => .node .leaf none (Tree.setF f .leaf (k / 2) x) := by
  show Bool.rec (motive := fun _ => Tree α) (.node .leaf none (Tree.setF f .leaf (k / 2) x)) (.node (Tree.setF f .leaf (k / 2) x) none .leaf) (Nat.beq (k % 2) 0) = _
  cases Nat.beq (k % 2) 0 <;> rfl
theorem Tree.setF_nodeS {α : Type} (f k : Nat) (l : Tree α) (v : Option α) (r : Tree α) (x : Option α) : Tree.setF (f + 1) (.node l v r) (k + 1) x = match Nat.beq (k % 2) 0 with | true => .node (Tree.setF f l (k / 2) x) v r | false => .node l v (Tree.setF f r (k / 2) x) := by
  show Bool.rec (motive := fun _ => Tree α) (.node l v (Tree.setF f r (k / 2) x)) (.node (Tree.setF f l (k / 2) x) v r) (Nat.beq (k % 2) 0) = _
  cases Nat.beq (k % 2) 0 <;> rfl
theorem Tree.get_setF {α : Type} : ∀ (f : Nat) (t : Tree α) (n : Nat) (x : Option α) (k : Nat), n < f →
    (Tree.setF f t n x).get k = if n = k then x else t.get k := by
  intro f
  induction f with
  | zero => intro t n x k h; omega
  | succ f ih =>
    intro t n x k h
    cases t with
    | leaf =>
      cases n with
      | zero => cases k with
        | zero => simp [Tree.setF_leaf0, Tree.get_zero]
        | succ k => simp only [Tree.setF_leaf0, Tree.get_succ, Tree.get_leaf]; rw [if_neg (by omega)]; split <;> rfl
      | succ n =>
        cases k with
        | zero => simp only [Tree.setF_leafS]; split <;> simp [Tree.get_zero, Tree.get_leaf]
        | succ k =>
          have e1 := ih .leaf (n / 2) x (k / 2) (by omega)
          have hl : ∀ j, (Tree.leaf : Tree α).get j = none := fun j => rfl
          simp only [Tree.setF_leafS]
          cases hn : Nat.beq (n % 2) 0 <;> cases hk : Nat.beq (k % 2) 0 <;> simp only [Tree.get_succ, Tree.get_leaf, hk, e1]
          · have hn' : n % 2 ≠ 0 := by intro h; rw [h] at hn; exact absurd hn (by decide)
            have hk' : k % 2 ≠ 0 := by intro h; rw [h] at hk; exact absurd hk (by decide)
            by_cases e : n / 2 = k / 2
            · rw [if_pos e, if_pos (by omega)]
            · rw [if_neg e, if_neg (by omega)]
          · have hk' : k % 2 = 0 := Nat.eq_of_beq_eq_true hk
            have hn' : n % 2 ≠ 0 := by intro h; rw [h] at hn; exact absurd hn (by decide)
            rw [if_neg (by omega)]
          · have hn' : n % 2 = 0 := Nat.eq_of_beq_eq_true hn
            have hk' : k % 2 ≠ 0 := by intro h; rw [h] at hk; exact absurd hk (by decide)
            rw [if_neg (by omega)]
          · have hn' : n % 2 = 0 := Nat.eq_of_beq_eq_true hn
            have hk' : k % 2 = 0 := Nat.eq_of_beq_eq_true hk
            by_cases e : n / 2 = k / 2
            · rw [if_pos e, if_pos (by omega)]
            · rw [if_neg e, if_neg (by omega)]
    | node l v r =>
      cases n with
      | zero => cases k with
        | zero => simp [Tree.setF_node0, Tree.get_zero]
        | succ k => simp only [Tree.setF_node0, Tree.get_succ]; rw [if_neg (by omega)]
      | succ n =>
        cases k with
        | zero => simp only [Tree.setF_nodeS]; split <;> simp [Tree.get_zero]
        | succ k =>
          have e1 := ih l (n / 2) x (k / 2) (by omega)
          have e2 := ih r (n / 2) x (k / 2) (by omega)
          simp only [Tree.setF_nodeS]
          cases hn : Nat.beq (n % 2) 0 <;> cases hk : Nat.beq (k % 2) 0 <;> simp only [Tree.get_succ, hk, e1, e2]
          · have hn' : n % 2 ≠ 0 := by intro h; rw [h] at hn; exact absurd hn (by decide)
            have hk' : k % 2 ≠ 0 := by intro h; rw [h] at hk; exact absurd hk (by decide)
            by_cases e : n / 2 = k / 2
            · rw [if_pos e, if_pos (by omega)]
            · rw [if_neg e, if_neg (by omega)]
          · have hk' : k % 2 = 0 := Nat.eq_of_beq_eq_true hk
            have hn' : n % 2 ≠ 0 := by intro h; rw [h] at hn; exact absurd hn (by decide)
            rw [if_neg (by omega)]
          · have hn' : n % 2 = 0 := Nat.eq_of_beq_eq_true hn
            have hk' : k % 2 ≠ 0 := by intro h; rw [h] at hk; exact absurd hk (by decide)
            rw [if_neg (by omega)]
          · have hn' : n % 2 = 0 := Nat.eq_of_beq_eq_true hn
            have hk' : k % 2 = 0 := Nat.eq_of_beq_eq_true hk
            by_cases e : n / 2 = k / 2
            · rw [if_pos e, if_pos (by omega)]
            · rw [if_neg e, if_neg (by omega)]

theorem Tree.get_set {α : Type} (t : Tree α) (n : Nat) (x : Option α) (k : Nat) : (t.set n x).get k = if n = k then x else t.get k :=
  Tree.get_setF (n + 1) t n x k (by omega)
theorem Tree.get_put {α : Type} (t : Tree α) (n : Nat) (x : α) (k : Nat) : (t.put n x).get k = if n = k then some x else t.get k :=
  Tree.get_set t n (some x) k
theorem Tree.get_ofListFrom {α : Type} : ∀ (l : List α) (n : Nat) (t : Tree α) (k : Nat),
    (Tree.ofListFrom l n t).get k = if k < n then t.get k else match l[k - n]? with | some x => some x | none => t.get k := by
  intro l
  induction l with
  | nil => intro n t k; simp [Tree.ofListFrom]
  | cons x xs ih =>
    intro n t k
    simp only [Tree.ofListFrom]
    rw [ih, Tree.get_put]
    by_cases h : k < n
    · rw [if_pos (by omega), if_neg (by omega), if_pos h]
    · by_cases e : n = k
      · subst e; simp
      · rw [if_neg (by omega), if_neg h]
        have : k - n = (k - (n + 1)) + 1 := by omega
        rw [this, List.getElem?_cons_succ, if_neg e]

theorem Tree.get_ofList {α : Type} (l : List α) (k : Nat) : (Tree.ofList l).get k = l[k]? := by
  unfold Tree.ofList
  rw [Tree.get_ofListFrom, if_neg (by omega)]
  simp only [Nat.sub_zero, Tree.get_leaf]
  cases l[k]? <;> rfl

/-! ### Renamings -/
structure Blk where
  cb : Nat
  base : Nat
  size : Nat

structure Ren where
  at_ : Nat → Option Blk

def Ren.le (r r' : Ren) : Prop := ∀ b B, r.at_ b = some B → r'.at_ b = some B
theorem Ren.le_refl (r : Ren) : r.le r := fun _ _ h => h
theorem Ren.le_trans {a b c : Ren} (h : a.le b) (k : b.le c) : a.le c := fun x B e => k x B (h x B e)

def Cap.holds : Cap → Nat → Prop
  | .exact n, c => c = n
  | .least n, c => n ≤ c

inductive VRel (r : Ren) : AVal → Value → Prop where
  | any (v : Value) : VRel r .any v
  | bool (b : Bool) : VRel r (.bool b) (.bool b)
  | int (k : IntKind) (n : Int) : VRel r (.int k n) (.int k n)
  | str (s : ByteArray) (l : List UInt8) (h : s.data.toList = l) : VRel r (.str l) (.string s)
  | nptr : VRel r .nptr (.pointer none)
  | ptr (b o : Nat) (B : Blk) (h : r.at_ b = some B) : VRel r (.ptr b o) (.pointer (some ⟨B.cb, B.base + o, none⟩))
  | nslice : VRel r .nslice (.slice none 0 0)
  | slice (b o len esz : Nat) (cap : Cap) (B : Blk) (a : Addr) (c : Nat) (h : r.at_ b = some B) (hc : cap.holds c) (hl : len ≤ c)
      (hr : c = 0 ∨ (a = ⟨B.cb, B.base + o, none⟩ ∧ B.base + o + c * esz ≤ B.size)) : VRel r (.slice b o len esz cap) (.slice (some a) len c)
  | nmap : VRel r .nmap (.map none)
  | map (b : Nat) (B : Blk) (h : r.at_ b = some B) : VRel r (.map b) (.map (some B.cb))
  | chan (b : Nat) (B : Blk) (h : r.at_ b = some B) : VRel r (.chan b) (.chan (some B.cb))
  | func (fn : Fn) (f c : List AVal) (f' c' : Array Value) (hf : f'.toList.length = f.length) (hc : c'.toList.length = c.length)
      (h1 : ∀ (i : Nat) v v', f[i]? = some v → f'.toList[i]? = some v' → VRel r v v')
      (h2 : ∀ (i : Nat) v v', c[i]? = some v → c'.toList[i]? = some v' → VRel r v v') : VRel r (.func fn f c) (.func fn f' c')
  | nfunc : VRel r .nfunc .nilFunc
  | iface (t : TypeId) (v : AVal) (v' : Value) (h : VRel r v v') : VRel r (.iface t v) (.iface t v')
  | niface : VRel r .niface .nilIface
  | agg (cs : List AVal) (cs' : Array Value) (hl : cs'.toList.length = cs.length)
      (h : ∀ (i : Nat) v v', cs[i]? = some v → cs'.toList[i]? = some v' → VRel r v v') : VRel r (.agg cs) (.agg cs')
  | tuple (cs : List AVal) (cs' : Array Value) (hl : cs'.toList.length = cs.length)
      (h : ∀ (i : Nat) v v', cs[i]? = some v → cs'.toList[i]? = some v' → VRel r v v') : VRel r (.tuple cs) (.tuple cs')

theorem VRel.mono {r r' : Ren} (hle : r.le r') {v : AVal} {v' : Value} (h : VRel r v v') : VRel r' v v' := by
  induction h with
  | any v => exact .any v
  | bool b => exact .bool b
  | int k n => exact .int k n
  | str s l h => exact .str s l h
  | nptr => exact .nptr
  | ptr b o B h => exact .ptr b o B (hle _ _ h)
  | nslice => exact .nslice
  | slice b o len esz cap B a c h hc hl hr => exact .slice b o len esz cap B a c (hle _ _ h) hc hl hr
  | nmap => exact .nmap
  | map b B h => exact .map b B (hle _ _ h)
  | chan b B h => exact .chan b B (hle _ _ h)
  | func fn f c f' c' hf hc _ _ i1 i2 => exact .func fn f c f' c' hf hc i1 i2
  | nfunc => exact .nfunc
  | iface t v v' _ ih => exact .iface t v v' ih
  | niface => exact .niface
  | agg cs cs' hl _ ih => exact .agg cs cs' hl ih
  | tuple cs cs' hl _ ih => exact .tuple cs cs' hl ih

/-- Lists of values, place by place. -/
structure VsRel (r : Ren) (l : List AVal) (l' : List Value) : Prop where
  len : l'.length = l.length
  at_ : ∀ (i : Nat) v v', l[i]? = some v → l'[i]? = some v' → VRel r v v'

theorem VsRel.mono {r r' : Ren} (hle : r.le r') {l : List AVal} {l' : List Value} (h : VsRel r l l') : VsRel r' l l' :=
  ⟨h.len, fun i v v' a b => (h.at_ i v v' a b).mono hle⟩
theorem VsRel.nil (r : Ren) : VsRel r [] [] := ⟨rfl, fun i v v' h => by simp at h⟩
theorem VsRel.cons {r : Ren} {v : AVal} {v' : Value} {l : List AVal} {l' : List Value} (h : VRel r v v') (t : VsRel r l l') : VsRel r (v :: l) (v' :: l') := by
  refine ⟨by simp [t.len], fun i u u' a b => ?_⟩
  cases i with
  | zero => simp at a b; subst a; subst b; exact h
  | succ i => exact t.at_ i u u' (by simpa using a) (by simpa using b)
theorem VsRel.head {r : Ren} {v : AVal} {v' : Value} {l : List AVal} {l' : List Value} (h : VsRel r (v :: l) (v' :: l')) : VRel r v v' := h.at_ 0 v v' rfl rfl
theorem VsRel.tail {r : Ren} {v : AVal} {v' : Value} {l : List AVal} {l' : List Value} (h : VsRel r (v :: l) (v' :: l')) : VsRel r l l' :=
  ⟨by simpa using h.len, fun i u u' a b => h.at_ (i + 1) u u' (by simpa using a) (by simpa using b)⟩
theorem VsRel.cons_inv {r : Ren} {v : AVal} {l : List AVal} {l' : List Value} (h : VsRel r (v :: l) l') : ∃ v' t', l' = v' :: t' ∧ VRel r v v' ∧ VsRel r l t' := by
  cases l' with
  | nil => have := h.len; simp at this
  | cons v' t' => exact ⟨v', t', rfl, h.head, h.tail⟩
theorem VsRel.nil_inv {r : Ren} {l' : List Value} (h : VsRel r [] l') : l' = [] := by
  have := h.len; simpa using this
theorem VsRel.append {r : Ren} {a b : List AVal} {a' b' : List Value} (h : VsRel r a a') (k : VsRel r b b') : VsRel r (a ++ b) (a' ++ b') := by
  refine ⟨by simp [h.len, k.len], fun i v v' x y => ?_⟩
  rw [List.getElem?_append] at x y
  rw [h.len] at y
  by_cases c : i < a.length
  · rw [if_pos c] at x y; exact h.at_ i v v' x y
  · rw [if_neg c] at x y; exact k.at_ _ v v' x y
theorem VsRel.take {r : Ren} {a : List AVal} {a' : List Value} (h : VsRel r a a') (n : Nat) : VsRel r (a.take n) (a'.take n) := by
  refine ⟨by simp [h.len], fun i v v' x y => ?_⟩
  rw [List.getElem?_take] at x y
  by_cases c : i < n
  · rw [if_pos c] at x y; exact h.at_ i v v' x y
  · rw [if_neg c] at x; cases x
theorem VsRel.drop {r : Ren} {a : List AVal} {a' : List Value} (h : VsRel r a a') (n : Nat) : VsRel r (a.drop n) (a'.drop n) := by
  refine ⟨by simp [h.len], fun i v v' x y => ?_⟩
  rw [List.getElem?_drop] at x y
  exact h.at_ _ v v' x y
theorem VsRel.get {r : Ren} {a : List AVal} {a' : List Value} (h : VsRel r a a') {i : Nat} {v : AVal} (e : a[i]? = some v) : ∃ v', a'[i]? = some v' ∧ VRel r v v' := by
  have hi : i < a.length := by
    rcases Nat.lt_or_ge i a.length with c | c
    · exact c
    · rw [List.getElem?_eq_none c] at e; cases e
  have : a'[i]? = some (a'[i]'(by rw [h.len]; exact hi)) := List.getElem?_eq_getElem _
  exact ⟨_, this, h.at_ i v _ e this⟩
theorem VsRel.over {r : Ren} {a c : List AVal} {a' c' : List Value} (h : VsRel r a a') (k : VsRel r c c') (n : Nat) :
    VsRel r (over a n c) (a'.take n ++ c' ++ a'.drop (n + c'.length)) := by
  unfold Ev.over
  rw [k.len]
  exact ((h.take n).append k).append (h.drop _)

theorem VRel.aggOf {r : Ren} {cs : List AVal} {cs' : Array Value} (h : VsRel r cs cs'.toList) : VRel r (.agg cs) (.agg cs') := .agg cs cs' h.len h.at_
theorem VRel.tupleOf {r : Ren} {cs : List AVal} {cs' : Array Value} (h : VsRel r cs cs'.toList) : VRel r (.tuple cs) (.tuple cs') := .tuple cs cs' h.len h.at_

/-! What stands on the other side. -/
theorem VRel.bool_inv {r : Ren} {b : Bool} {v : Value} (h : VRel r (.bool b) v) : v = .bool b := by cases h; rfl
theorem VRel.int_inv {r : Ren} {k : IntKind} {n : Int} {v : Value} (h : VRel r (.int k n) v) : v = .int k n := by cases h; rfl
theorem VRel.str_inv {r : Ren} {l : List UInt8} {v : Value} (h : VRel r (.str l) v) : ∃ s : ByteArray, v = .string s ∧ s.data.toList = l := by cases h with | str s l h => exact ⟨s, rfl, h⟩
theorem VRel.nptr_inv {r : Ren} {v : Value} (h : VRel r .nptr v) : v = .pointer none := by cases h; rfl
theorem VRel.ptr_inv {r : Ren} {b o : Nat} {v : Value} (h : VRel r (.ptr b o) v) : ∃ B, r.at_ b = some B ∧ v = .pointer (some ⟨B.cb, B.base + o, none⟩) := by
  cases h with | ptr b o B h => exact ⟨B, h, rfl⟩
theorem VRel.nslice_inv {r : Ren} {v : Value} (h : VRel r .nslice v) : v = .slice none 0 0 := by cases h; rfl
theorem VRel.slice_inv {r : Ren} {b o len esz : Nat} {cap : Cap} {v : Value} (h : VRel r (.slice b o len esz cap) v) :
    ∃ B a c, r.at_ b = some B ∧ v = .slice (some a) len c ∧ cap.holds c ∧ len ≤ c ∧ (c = 0 ∨ (a = ⟨B.cb, B.base + o, none⟩ ∧ B.base + o + c * esz ≤ B.size)) := by
  cases h with | slice b o len esz cap B a c h hc hl hr => exact ⟨B, a, c, h, rfl, hc, hl, hr⟩
theorem VRel.nmap_inv {r : Ren} {v : Value} (h : VRel r .nmap v) : v = .map none := by cases h; rfl
theorem VRel.map_inv {r : Ren} {b : Nat} {v : Value} (h : VRel r (.map b) v) : ∃ B, r.at_ b = some B ∧ v = .map (some B.cb) := by
  cases h with | map b B h => exact ⟨B, h, rfl⟩
theorem VRel.chan_inv {r : Ren} {b : Nat} {v : Value} (h : VRel r (.chan b) v) : ∃ B, r.at_ b = some B ∧ v = .chan (some B.cb) := by
  cases h with | chan b B h => exact ⟨B, h, rfl⟩
theorem VRel.nfunc_inv {r : Ren} {v : Value} (h : VRel r .nfunc v) : v = .nilFunc := by cases h; rfl
theorem VRel.niface_inv {r : Ren} {v : Value} (h : VRel r .niface v) : v = .nilIface := by cases h; rfl
theorem VRel.iface_inv {r : Ren} {t : TypeId} {u : AVal} {v : Value} (h : VRel r (.iface t u) v) : ∃ u', v = .iface t u' ∧ VRel r u u' := by
  cases h with | iface t v v' h => exact ⟨v', rfl, h⟩
theorem VRel.agg_inv {r : Ren} {cs : List AVal} {v : Value} (h : VRel r (.agg cs) v) : ∃ cs' : Array Value, v = .agg cs' ∧ VsRel r cs cs'.toList := by
  cases h with | agg cs cs' hl h => exact ⟨cs', rfl, hl, h⟩
theorem VRel.tuple_inv {r : Ren} {cs : List AVal} {v : Value} (h : VRel r (.tuple cs) v) : ∃ cs' : Array Value, v = .tuple cs' ∧ VsRel r cs cs'.toList := by
  cases h with | tuple cs cs' hl h => exact ⟨cs', rfl, hl, h⟩
theorem VRel.func_inv {r : Ren} {fn : Fn} {f c : List AVal} {v : Value} (h : VRel r (.func fn f c) v) :
    ∃ f' c' : Array Value, v = .func fn f' c' ∧ VsRel r f f'.toList ∧ VsRel r c c'.toList := by
  cases h with | func fn f c f' c' hf hc h1 h2 => exact ⟨f', c', rfl, ⟨hf, h1⟩, ⟨hc, h2⟩⟩

/-- The cells of a value. -/
theorem VRel.cells {r : Ren} {v : AVal} {v' : Value} (h : VRel r v v') (hv : v ≠ .any) (ht : ∀ vs, v ≠ .tuple vs) : VsRel r v.cells v'.cells.toList := by
  have one : ∀ {x : AVal} {x' : Value}, VRel r x x' → VsRel r [x] [x'] := fun h => .cons h (.nil r)
  cases h with
  | any => exact absurd rfl hv
  | agg cs cs' hl h => exact ⟨hl, h⟩
  | tuple cs _ _ _ => exact absurd rfl (ht cs)
  | bool b => exact one (.bool b)
  | int k n => exact one (.int k n)
  | str s l h => exact one (.str s l h)
  | nptr => exact one .nptr
  | ptr b o B h => exact one (.ptr b o B h)
  | nslice => exact one .nslice
  | slice b o len esz cap B a c h hc hl hr => exact one (.slice b o len esz cap B a c h hc hl hr)
  | nmap => exact one .nmap
  | map b B h => exact one (.map b B h)
  | chan b B h => exact one (.chan b B h)
  | func fn f c f' c' hf hc h1 h2 => exact one (.func fn f c f' c' hf hc h1 h2)
  | nfunc => exact one .nfunc
  | iface t v v' h => exact one (.iface t v v' h)
  | niface => exact one .niface

theorem absCell_rel (r : Ren) (v : Value) : VRel r (absCell v) v := by
  unfold absCell
  split <;> first | exact .any _ | exact .bool _ | exact .int _ _ | exact .str _ _ rfl | exact .nptr | exact .nslice | exact .nmap | exact .nfunc | exact .niface
theorem absV_rel (r : Ren) (v : Value) : VRel r (absV v) v := by
  unfold absV
  split
  · rename_i cs
    refine .aggOf ⟨by simp, fun i v v' a b => ?_⟩
    rw [List.getElem?_map, b] at a
    simp at a
    subst a
    exact absCell_rel r v'
  · exact absCell_rel r _

/-! ### The tables -/
structure TabOk (T : Tab) (P : Program) : Prop where
  prog : T.prog = P
  fn : ∀ f x, T.fn f = some x → P.funcs[f]? = some x ∧ (x.name == "runtime.NumGoroutine") = false
  info : ∀ t i, T.info t = some i → P.info? t = some i
  eqs : ∀ t, T.eqs t = true → P.stoodInHeld t = false ∧ P.eqGuardType P.depth t = false ∧ ((P.fieldsOf t).toList.all fun f => f.name != "_") = true

theorem TabOk.und {T : Tab} {P : Program} (h : TabOk T P) {t : TypeId} {d : TypeDesc} (e : T.und t = some d) : P.underlying t = some d := by
  unfold Tab.und at e
  unfold Program.underlying
  split at e
  · rename_i n u _ _ _ _ _ _ _ _ _ hi
    rw [h.info _ _ hi]
    cases hu : T.info u with
    | none => rw [hu] at e; simp at e
    | some i => rw [hu] at e; simp at e; simp [h.info _ _ hu, e]
  · rename_i i hn hi
    rw [h.info _ _ hi]
    simp only [Option.some.injEq] at e
    split
    · rename_i heq; exact (hn _ _ _ _ _ _ _ _ _ _ _ (Option.some.inj heq)).elim
    · rename_i i' _ heq; have := Option.some.inj heq; subst this; rw [e]
    · rename_i heq; cases heq
  · cases e

theorem TabOk.size {T : Tab} {P : Program} (h : TabOk T P) {t : TypeId} {n : Nat} (e : T.size t = some n) : ∃ i, P.info? t = some i ∧ i.size = n := by
  unfold Tab.size at e
  cases hi : T.info t with
  | none => rw [hi] at e; simp at e
  | some i => rw [hi] at e; exact ⟨i, h.info _ _ hi, by simpa using e⟩

section
variable {T : Tab} {P : Program} (hT : TabOk T P)
include hT
theorem run_und {t : TypeId} {d : TypeDesc} (e : T.und t = some d) (w : World) : (underlying t).run P w = .ok d w := run_underlying (hT.und e) w
theorem run_size {t : TypeId} {n : Nat} (e : T.size t = some n) (w : World) : (sizeOf t).run P w = .ok n w := by
  obtain ⟨i, hi, hn⟩ := hT.size e
  simp [sizeOf, typeInfo, hi, hn]
theorem run_isAgg {t : TypeId} {b : Bool} (e : T.isAgg t = some b) (w : World) : (isAgg t).run P w = .ok b w := by
  unfold Tab.isAgg at e
  split at e
  · rename_i hd; cases e; simp [isAgg, run_und hT hd]
  · rename_i hd; cases e; simp [isAgg, run_und hT hd]
  · rename_i d h1 h2 hd
    cases e
    simp only [isAgg, Sem.run_bind, run_und hT hd, Result.andThen_ok]
    cases d with
    | struct fs => exact (h1 fs rfl).elim
    | array n el => exact (h2 n el rfl).elim
    | _ => rfl
  · cases e
theorem run_zero {t : TypeId} {z : AVal} (e : T.zero t = some z) (w : World) : ∃ v, (zeroValue t).run P w = .ok v w ∧ z = absV v := by
  unfold Tab.zero at e
  split at e
  · rename_i i hi
    split at e
    · rename_i v hv
      cases e
      exact ⟨v, by simp [zeroValue, typeInfo, hT.info _ _ hi, hv], rfl⟩
    · cases e
  · cases e
end

/-! ### Temporaries -/
structure TRel (D : Keep) (r : Ren) (t : Tree AVal) (n : Nat) (a : Act) : Prop where
  size : a.tmps.size = n
  at_ : ∀ i v, t.get i = some v → VRel r v (a.tmps.getD i undef)
  calm : D.calm a

def GlobOk (T : Tab) (r : Ren) : Prop := ∀ g, T.glob g = true → ∃ B, r.at_ g = some B ∧ B.cb = g ∧ B.base = 0
theorem GlobOk.mono {T : Tab} {r r' : Ren} (h : GlobOk T r) (hle : r.le r') : GlobOk T r' := fun g e =>
  let ⟨B, h1, h2, h3⟩ := h g e; ⟨B, hle _ _ h1, h2, h3⟩
theorem TRel.mono {r r' : Ren} {t : Tree AVal} {n : Nat} {a : Act} (h : TRel D r t n a) (hle : r.le r') : TRel D r' t n a :=
  ⟨h.size, fun i v e => (h.at_ i v e).mono hle, h.calm⟩

theorem ev_rel {T : Tab} {r : Ren} {t : Tree AVal} {n : Nat} {a : Act} (hg : GlobOk T r) (ht : TRel D r t n a) (x : Operand) : VRel r (ev T t x) (a.eval x) := by
  cases x with
  | tmp i =>
    simp only [ev]
    cases h : t.get i with
    | none => exact .any _
    | some v => exact ht.at_ i v h
  | const v => exact absV_rel r v
  | global g =>
    simp only [ev]
    cases h : T.glob g with
    | false => exact .any _
    | true =>
      obtain ⟨B, h1, h2, h3⟩ := hg g h
      have := VRel.ptr (r := r) g 0 B h1
      rw [h2, h3] at this
      exact this
  | func f => exact .func _ [] [] #[] #[] rfl rfl (fun i v v' h => by simp at h) (fun i v v' h => by simp at h)

theorem evList_rel {T : Tab} {r : Ren} {t : Tree AVal} {n : Nat} {a : Act} (hg : GlobOk T r) (ht : TRel D r t n a) (xs : Array Operand) :
    VsRel r (evList T t xs) (xs.map a.eval).toList := by
  refine ⟨by simp [evList], fun i v v' x y => ?_⟩
  simp only [evList, Array.toList_map, List.getElem?_map, Option.map_eq_some_iff] at x y
  obtain ⟨o, ho, rfl⟩ := x
  obtain ⟨o', ho', rfl⟩ := y
  rw [ho] at ho'
  cases ho'
  exact ev_rel hg ht o
end Ev
end Go.Proofs.YtjmapihogpdocaaGreatDoor

/-! ## EvPure -/
namespace Go.Proofs.YtjmapihogpdocaaGreatDoor
namespace Ev
open Go

section
variable {T : Tab} {P : Program} (hT : TabOk T P) {r : Ren} (w : World)

theorem run_asInt (k : IntKind) (n : Int) : (asInt (.int k n)).run P w = .ok n w := by simp [asInt, asIntOf]
theorem run_asIntOf (k : IntKind) (n : Int) : (asIntOf (.int k n)).run P w = .ok (k, n) w := by simp [asIntOf]

theorem intBits_ok {op : BinOp} {k : IntKind} {x y : Int} {v : AVal} (h : intBits op k x y = some v) :
    ∃ v', (Op.intBits op k x y).run P w = .ok v' w ∧ VRel r v v' := by
  unfold intBits at h
  cases op <;> cases h <;> exact ⟨_, rfl, .int _ _⟩

theorem shiftOp_ok {op : BinOp} {k yk : IntKind} {x y : Int} {v : AVal} (h : shiftOp op k x y = some v) :
    ∃ v', (Op.shift op k x yk y).run P w = .ok v' w ∧ VRel r v v' := by
  unfold shiftOp at h
  by_cases c : y < 0
  · rw [if_pos c] at h; cases h
  · rw [if_neg c] at h
    cases op <;> simp at h <;> subst h <;> exact ⟨_, by simp [Op.shift, c], .int _ _⟩

theorem eqI_eq (x y : Int) : eqI x y = (x == y) := by
  rw [Bool.eq_iff_iff, beq_iff_eq]
  cases x with
  | ofNat a => cases y with
    | ofNat b =>
      show Nat.beq a b = true ↔ _
      rw [Nat.beq_eq]
      exact ⟨fun h => by rw [h], fun h => by cases h; rfl⟩
    | negSucc b => exact ⟨fun h => (by cases h), fun h => (by cases h)⟩
  | negSucc a => cases y with
    | ofNat b => exact ⟨fun h => (by cases h), fun h => (by cases h)⟩
    | negSucc b =>
      show Nat.beq a b = true ↔ _
      rw [Nat.beq_eq]
      exact ⟨fun h => by rw [h], fun h => by cases h; rfl⟩

theorem ltI_eq (x y : Int) : ltI x y = decide (x < y) := by
  rw [Bool.eq_iff_iff, decide_eq_true_eq]
  cases x with
  | ofNat a => cases y with
    | ofNat b =>
      show Nat.ble (a + 1) b = true ↔ _
      rw [Nat.ble_eq]
      show a + 1 ≤ b ↔ (a : Int) < (b : Int)
      omega
    | negSucc b => exact ⟨fun h => (by cases h), fun h => (by have h0 : (0 : Int) ≤ Int.ofNat a := Int.natCast_nonneg a; omega)⟩
  | negSucc a => cases y with
    | ofNat b => exact ⟨fun _ => (by have h0 : (0 : Int) ≤ Int.ofNat b := Int.natCast_nonneg b; omega), fun _ => rfl⟩
    | negSucc b =>
      show Nat.ble (b + 1) a = true ↔ _
      rw [Nat.ble_eq]
      omega

theorem intOp_ok {op : BinOp} {t : TypeId} {k : IntKind} {x y : Int} {v : AVal} (hs : op ≠ .shl) (hr : op ≠ .shr) (h : intOp op k x y = some v) :
    ∃ v', (Go.binOp op t (.int k x) (.int k y)).run P w = .ok v' w ∧ VRel r v v' := by
  cases op with
  | add => simp [intOp] at h; subst h; exact ⟨_, by simp [Go.binOp, Op.intArith], .int _ _⟩
  | sub => simp [intOp] at h; subst h; exact ⟨_, by simp [Go.binOp, Op.intArith], .int _ _⟩
  | mul => simp [intOp] at h; subst h; exact ⟨_, by simp [Go.binOp, Op.intArith], .int _ _⟩
  | quo =>
    simp only [intOp] at h
    by_cases c : y = 0
    · rw [if_pos c] at h; cases h
    · rw [if_neg c] at h; cases h; exact ⟨_, by simp [Go.binOp, Op.intDiv, c], .int _ _⟩
  | rem =>
    simp only [intOp] at h
    by_cases c : y = 0
    · rw [if_pos c] at h; cases h
    · rw [if_neg c] at h; cases h; exact ⟨_, by simp [Go.binOp, Op.intDiv, c], .int _ _⟩
  | eql => simp [intOp, eqI_eq] at h; subst h; exact ⟨_, by simp [Go.binOp, Op.intCmp], .bool _⟩
  | neq => simp only [intOp, eqI_eq, Option.some.injEq] at h; subst h; exact ⟨_, by simp [Go.binOp, Op.intCmp, bne], .bool _⟩
  | lss => simp [intOp, ltI_eq] at h; subst h; exact ⟨_, by simp [Go.binOp, Op.intCmp], .bool _⟩
  | leq => simp only [intOp, ltI_eq, Option.some.injEq] at h; subst h; rw [show (!decide (y < x)) = decide (x ≤ y) by rw [← decide_not, decide_eq_decide]; omega]; exact ⟨_, by simp [Go.binOp, Op.intCmp], .bool _⟩
  | gtr => simp [intOp, ltI_eq] at h; subst h; exact ⟨_, by simp [Go.binOp, Op.intCmp], .bool _⟩
  | geq => simp only [intOp, ltI_eq, Option.some.injEq] at h; subst h; rw [show (!decide (x < y)) = decide (x ≥ y) by rw [← decide_not, decide_eq_decide]; omega]; exact ⟨_, by simp [Go.binOp, Op.intCmp], .bool _⟩
  | shl => exact absurd rfl hs
  | shr => exact absurd rfl hr
  | and => simp only [intOp] at h; obtain ⟨v', a, b⟩ := intBits_ok (P := P) (r := r) w h; exact ⟨v', by simpa [Go.binOp] using a, b⟩
  | or => simp only [intOp] at h; obtain ⟨v', a, b⟩ := intBits_ok (P := P) (r := r) w h; exact ⟨v', by simpa [Go.binOp] using a, b⟩
  | xor => simp only [intOp] at h; obtain ⟨v', a, b⟩ := intBits_ok (P := P) (r := r) w h; exact ⟨v', by simpa [Go.binOp] using a, b⟩
  | andNot => simp only [intOp] at h; obtain ⟨v', a, b⟩ := intBits_ok (P := P) (r := r) w h; exact ⟨v', by simpa [Go.binOp] using a, b⟩

theorem byte_beq (a b : UInt8) : Nat.beq a.toNat b.toNat = (a == b) := by
  rw [Bool.eq_iff_iff, beq_iff_eq]
  constructor
  · intro h; exact UInt8.toNat_inj.1 (Nat.eq_of_beq_eq_true h)
  · intro h; rw [h]; exact Nat.beq_refl _
theorem bytesEq_eq : ∀ a b : List UInt8, bytesEq a b = (a == b)
  | [], [] => rfl
  | [], _ :: _ => rfl
  | _ :: _, [] => rfl
  | a :: x, b :: y => by
    simp only [bytesEq, byte_beq]
    cases h : (a == b) with
    | false => simp [h]
    | true => simp [h, bytesEq_eq x y]
theorem bytesLt_eq : ∀ a b : List UInt8, bytesLt a b = Op.bytesLess a b
  | x, [] => by cases x <;> rfl
  | [], _ :: _ => rfl
  | a :: x, b :: y => by
    simp only [bytesLt, Op.bytesLess, byte_beq]
    have e : Nat.blt a.toNat b.toNat = decide (a < b) := by
      rw [Bool.eq_iff_iff, decide_eq_true_iff, UInt8.lt_iff_toNat_lt]
      exact ⟨fun h => Nat.le_of_ble_eq_true h, fun h => Nat.ble_eq_true_of_le h⟩
    rw [e]
    cases decide (a < b) with
    | true => rfl
    | false => cases (a == b) with
      | true => simp [bytesLt_eq x y]
      | false => rfl


theorem data_size (s : ByteArray) : s.data.toList.length = s.size := (Lib.size_eq s).symm
theorem data_append (x y : ByteArray) : (x ++ y).data.toList = x.data.toList ++ y.data.toList := by rw [ByteArray.data_append, Array.toList_append]

theorem strOp_ok {op : BinOp} {t : TypeId} {x y : ByteArray} {v : AVal} (h : strOp op x.data.toList y.data.toList = some v) :
    ∃ v', (Go.binOp op t (.string x) (.string y)).run P w = .ok v' w ∧ VRel r v v' := by
  cases op with
  | add =>
    simp only [strOp] at h
    split at h
    · rename_i hb
      cases h
      have hb' := Nat.le_of_ble_eq_true hb
      rw [data_size, data_size] at hb'
      refine ⟨.string (x ++ y), ?_, .str _ _ (data_append x y)⟩
      simp only [Go.binOp, Op.stringOp, IntKind.max_i64]
      rw [if_neg (by omega)]
      rfl
    · cases h
  | eql => simp only [strOp, Option.some.injEq] at h; subst h; exact ⟨_, by simp only [Go.binOp, Op.stringOp, Sem.run_pure]; rw [ByteArray.toList_eq, ByteArray.toList_eq, ← bytesEq_eq], .bool _⟩
  | neq => simp only [strOp, Option.some.injEq] at h; subst h; exact ⟨_, by simp only [Go.binOp, Op.stringOp, Sem.run_pure]; rw [ByteArray.toList_eq, ByteArray.toList_eq, ← bytesEq_eq], .bool _⟩
  | lss => simp only [strOp, Option.some.injEq] at h; subst h; exact ⟨_, by simp only [Go.binOp, Op.stringOp, Sem.run_pure]; rw [ByteArray.toList_eq, ByteArray.toList_eq, ← bytesLt_eq], .bool _⟩
  | leq => simp only [strOp, Option.some.injEq] at h; subst h; exact ⟨_, by simp only [Go.binOp, Op.stringOp, Sem.run_pure]; rw [ByteArray.toList_eq, ByteArray.toList_eq, ← bytesLt_eq, ← bytesEq_eq], .bool _⟩
  | gtr => simp only [strOp, Option.some.injEq] at h; subst h; exact ⟨_, by simp only [Go.binOp, Op.stringOp, Sem.run_pure]; rw [ByteArray.toList_eq, ByteArray.toList_eq, ← bytesLt_eq, ← bytesEq_eq], .bool _⟩
  | geq => simp only [strOp, Option.some.injEq] at h; subst h; exact ⟨_, by simp only [Go.binOp, Op.stringOp, Sem.run_pure]; rw [ByteArray.toList_eq, ByteArray.toList_eq, ← bytesLt_eq], .bool _⟩
  | _ => cases h

/-! Equality -/
theorem string_beq (x y : ByteArray) : (x == y) = (x.data.toList == y.data.toList) := by
  cases x with | mk x => cases y with | mk y =>
  show (x == y) = _
  cases x with | mk x => cases y with | mk y =>
  simp

theorem eqCell_ok {t : TypeId} {d : TypeDesc} {x y : AVal} {x' y' : Value} {b : Bool} (hd : P.underlying t = some d) (n : Nat) (hx : VRel r x x') (hy : VRel r y y')
    (h : eqCell d x y = some b) : (Op.equalIn (n + 1) t x' y').run P w = .ok b w := by
  unfold eqCell at h
  split at h
  · cases h; rw [hx.bool_inv, hy.bool_inv]; simp [Op.equalIn, run_underlying hd]
  · rename_i k a k' b
    by_cases c : k = k'
    · rw [if_pos c] at h; cases h; subst c; rw [hx.int_inv, hy.int_inv]; simp [Op.equalIn, run_underlying hd]
    · rw [if_neg c] at h; cases h
  · cases h
    obtain ⟨s1, rfl, e1⟩ := hx.str_inv
    obtain ⟨s2, rfl, e2⟩ := hy.str_inv
    simp only [Op.equalIn, Sem.run_bind, run_underlying hd, Result.andThen_ok, Sem.run_pure]
    rw [bytesEq_eq, ← e1, ← e2, string_beq]
  · cases h; rw [hx.nptr_inv, hy.nptr_inv]; simp [Op.equalIn, run_underlying hd]
  · cases h; rw [hx.nptr_inv]; obtain ⟨B, _, rfl⟩ := hy.ptr_inv; simp [Op.equalIn, run_underlying hd]
  · cases h; rw [hy.nptr_inv]; obtain ⟨B, _, rfl⟩ := hx.ptr_inv; simp [Op.equalIn, run_underlying hd]
  · cases h; rw [hx.niface_inv]; obtain ⟨u, rfl, _⟩ := hy.iface_inv; simp [Op.equalIn, run_underlying hd]
  · cases h; rw [hy.niface_inv]; obtain ⟨u, rfl, _⟩ := hx.iface_inv; simp [Op.equalIn, run_underlying hd]
  · cases h; rw [hx.nslice_inv, hy.nslice_inv]; simp [Op.equalIn, run_underlying hd]
  · cases h; rw [hx.nslice_inv]; obtain ⟨B, a, c, _, rfl, _⟩ := hy.slice_inv; simp [Op.equalIn, run_underlying hd]
  · cases h; rw [hy.nslice_inv]; obtain ⟨B, a, c, _, rfl, _⟩ := hx.slice_inv; simp [Op.equalIn, run_underlying hd]
  · cases h; rw [hx.nmap_inv, hy.nmap_inv]; simp [Op.equalIn, run_underlying hd]
  · cases h; rw [hx.nmap_inv]; obtain ⟨B, _, rfl⟩ := hy.map_inv; simp [Op.equalIn, run_underlying hd]
  · cases h; rw [hy.nmap_inv]; obtain ⟨B, _, rfl⟩ := hx.map_inv; simp [Op.equalIn, run_underlying hd]
  · cases h; rw [hx.nfunc_inv, hy.nfunc_inv]; simp [Op.equalIn, run_underlying hd]
  · cases h; rw [hx.nfunc_inv]; obtain ⟨a, c, rfl, _⟩ := hy.func_inv; simp [Op.equalIn, run_underlying hd]
  · cases h; rw [hy.nfunc_inv]; obtain ⟨a, c, rfl, _⟩ := hx.func_inv; simp [Op.equalIn, run_underlying hd]
  · cases h
end
end Ev
end Go.Proofs.YtjmapihogpdocaaGreatDoor

/-! ## EvPure2 -/
namespace Go.Proofs.YtjmapihogpdocaaGreatDoor
namespace Ev
open Go

section
variable {T : Tab} {P : Program} (hT : TabOk T P) {r : Ren} (w : World)

theorem guard_plain {op : BinOp} {t : TypeId} {x y : Operand} {a b : Value} (h1 : a ≠ .nilIface ∨ b ≠ .nilIface) (h2 : ∀ cs, a ≠ .agg cs) :
    (eqGuard op t x y a b).run P w = .ok () w := by
  cases a with
  | agg cs => exact absurd rfl (h2 cs)
  | nilIface => cases b with
    | nilIface => simp at h1
    | _ => cases op <;> rfl
  | _ => cases op <;> rfl

theorem eqCell_notAgg {d : TypeDesc} {x y : AVal} {x' : Value} {b : Bool} (hx : VRel r x x') (h : eqCell d x y = some b) : ∀ cs, x' ≠ .agg cs := by
  intro cs e
  subst e
  cases hx <;> simp [eqCell] at h

theorem eqCell_notNil {d : TypeDesc} {x y : AVal} {x' y' : Value} {b : Bool} (hx : VRel r x x') (hy : VRel r y y') (h : eqCell d x y = some b) : x' ≠ .nilIface ∨ y' ≠ .nilIface := by
  rcases Classical.em (x' = .nilIface) with e | e
  · right
    subst e
    intro e2
    subst e2
    cases hx <;> cases hy <;> simp [eqCell] at h
  · exact .inl e

theorem equalIn_iface (n : Nat) {t t1 : TypeId} {ms : Array (String × TypeId)} {i : TypeInfo} (u1 u2 : Value) (hu : P.underlying t = some (.interface ms))
    (hi : P.info? t1 = some i) (hc : i.comparable = true) :
    (Op.equalIn (n + 1) t (.iface t1 u1) (.iface t1 u2)).run P w = (Op.equalIn n t1 u1 u2).run P w := by
  simp [Op.equalIn, run_underlying hu, typeInfo, hi, hc]
theorem equalIn_iface_ne (n : Nat) {t t1 t2 : TypeId} {ms : Array (String × TypeId)} (u1 u2 : Value) (hu : P.underlying t = some (.interface ms)) (c : ¬ t1 = t2) :
    (Op.equalIn (n + 1) t (.iface t1 u1) (.iface t2 u2)).run P w = .ok false w := by
  simp [Op.equalIn, run_underlying hu, c]
theorem equalIn_nils (n : Nat) {t : TypeId} {ms : Array (String × TypeId)} (hu : P.underlying t = some (.interface ms)) :
    (Op.equalIn (n + 1) t .nilIface .nilIface).run P w = .ok true w := by
  simp [Op.equalIn, run_underlying hu]

include hT in
theorem partOf_ok {t : TypeId} {cs : List AVal} {cs' : Array Value} {off : Nat} {v : AVal} (hc : VsRel r cs cs'.toList) (h : partOf T t cs off = some v) :
    ∃ v', (part t cs' off).run P w = .ok v' w ∧ VRel r v v' := by
  unfold partOf at h
  split at h
  · rename_i hb
    split at h
    · rename_i n hn
      split at h
      · rename_i hl
        cases h
        have hl' := Nat.le_of_ble_eq_true hl
        refine ⟨.agg (cs'.extract off (off + n)), by simp [part, run_isAgg hT hb, run_size hT hn], ?_⟩
        refine .aggOf ?_
        have : (cs'.extract off (off + n)).toList = (cs'.toList.drop off).take n := by
          rw [Array.toList_extract, List.extract_eq_take_drop]; congr 1; omega
        rw [this]
        exact (hc.drop _).take _
      · cases h
    · cases h
  · rename_i hb
    obtain ⟨v', e, hv⟩ := hc.get h
    have e' : cs'[off]? = some v' := by rw [← Array.getElem?_toList]; exact e
    exact ⟨v', by simp [part, run_isAgg hT hb, e'], hv⟩
  · cases h

include hT in
theorem eqFieldsA_ok (n : Nat) {as bs : List AVal} {as' bs' : Array Value} (ha : VsRel r as as'.toList) (hb : VsRel r bs bs'.toList) : ∀ {fs : List Field} {v : Bool}, (fs.all fun f => f.name != "_") = true → eqFieldsA T as bs fs = some v → (Op.eqFields (n + 1) as' bs' fs).run P w = .ok v w := by
  intro fs
  induction fs with
  | nil => intro v _ h; cases h; rfl
  | cons f fs ih =>
    intro v hn h
    simp only [List.all_cons, Bool.and_eq_true] at hn
    have hf : f.name ≠ "_" := by simpa using hn.1
    simp only [eqFieldsA] at h
    split at h
    · rename_i d x y hd hx hy
      obtain ⟨x', e1, h1⟩ := partOf_ok hT (w := w) ha hx
      obtain ⟨y', e2, h2⟩ := partOf_ok hT (w := w) hb hy
      simp only [Op.eqFields, if_pos hf, Sem.run_bind, e1, e2, Result.andThen_ok]
      split at h
      · rename_i he
        rw [eqCell_ok (w := w) (hT.und hd) n h1 h2 he]
        simp only [Result.andThen_ok, Bool.not_true, Bool.false_eq_true, if_false]
        exact ih hn.2 h
      · rename_i he
        cases h
        rw [eqCell_ok (w := w) (hT.und hd) n h1 h2 he]
        rfl
      · cases h
    · cases h

include hT in
theorem part_one {e : TypeId} (hb : T.isAgg e = some false) {xs : Array Value} {i : Nat} {v : Value} (hx : xs[i]? = some v) : (part e xs i).run P w = .ok v w := by
  simp [part, run_isAgg hT hb, hx]

include hT in
theorem eqRowA_ok (n : Nat) {d : TypeDesc} {e : TypeId} (hd : P.underlying e = some d) (hb : T.isAgg e = some false) {as' bs' : Array Value} : ∀ {as bs : List AVal} {k : Nat} {v : Bool},
    VsRel r as (as'.toList.drop k) → VsRel r bs (bs'.toList.drop k) → eqRowA d as bs = some v → (Op.eqItems (n + 1) e 1 as' bs' (List.range' k as.length)).run P w = .ok v w := by
  intro as
  induction as with
  | nil =>
    intro bs k v _ _ h
    cases bs with
    | nil => cases h; rfl
    | cons y bs => cases h
  | cons x as ih =>
    intro bs k v ha hb2 h
    cases bs with
    | nil => cases h
    | cons y bs =>
      obtain ⟨x', t1, e1, hx, ht1⟩ := ha.cons_inv
      obtain ⟨y', t2, e2, hy, ht2⟩ := hb2.cons_inv
      have g1 : as'[k]? = some x' := by
        rw [← Array.getElem?_toList]
        have := congrArg (fun l => l[0]?) e1
        simpa [List.getElem?_drop] using this
      have g2 : bs'[k]? = some y' := by
        rw [← Array.getElem?_toList]
        have := congrArg (fun l => l[0]?) e2
        simpa [List.getElem?_drop] using this
      have d1 : as'.toList.drop (k + 1) = t1 := by
        have := congrArg (fun l => l.drop 1) e1
        simpa [List.drop_drop] using this
      have d2 : bs'.toList.drop (k + 1) = t2 := by
        have := congrArg (fun l => l.drop 1) e2
        simpa [List.drop_drop] using this
      simp only [List.length_cons, List.range'_succ, Op.eqItems, Nat.mul_one, Sem.run_bind, part_one (w := w) hT hb g1, part_one (w := w) hT hb g2, Result.andThen_ok]
      simp only [eqRowA] at h
      split at h
      · rename_i he
        rw [eqCell_ok (w := w) hd n hx hy he]
        simp only [Result.andThen_ok, Bool.not_true, Bool.false_eq_true, if_false]
        exact ih (by rw [d1]; exact ht1) (by rw [d2]; exact ht2) h
      · rename_i he
        cases h
        rw [eqCell_ok (w := w) hd n hx hy he]
        rfl
      · cases h

include hT in
theorem eqOp_ok {t : TypeId} {x y : Operand} {a b : AVal} {a' b' : Value} {v : Bool} (op : BinOp) (ha : VRel r a a') (hb : VRel r b b')
    (h : eqOp T t x y a b = some v) : (eqGuard op t x y a' b').run P w = .ok () w ∧ (Op.equal t a' b').run P w = .ok v w := by
  obtain ⟨n, hn⟩ : ∃ n, ∀ t x y, Op.equal t x y = Op.equalIn (n + 1 + 1) t x y := ⟨9998, fun _ _ _ => rfl⟩
  unfold eqOp at h
  split at h
  · cases h
  · rename_i d hd
    have hu := hT.und hd
    split at h
    · rw [ha.niface_inv, hb.niface_inv]
      have e1 : (Op.equal t .nilIface .nilIface).run P w = .ok true w := by rw [hn]; exact equalIn_nils w _ hu
      split at h
      · cases h; exact ⟨by rw [eqGuard_nil_constL]; rfl, e1⟩
      · cases h; exact ⟨by rw [eqGuard_nil_constR]; rfl, e1⟩
      · cases h
    · rename_i ms t1 v1 t2 v2
      obtain ⟨u1, rfl, h1⟩ := ha.iface_inv
      obtain ⟨u2, rfl, h2⟩ := hb.iface_inv
      refine ⟨by rw [eqGuard_at_iface]; rfl, ?_⟩
      rw [hn]
      by_cases c : t1 = t2
      · rw [if_pos c] at h
        subst c
        split at h
        · rename_i i d1 hi hd1
          split at h
          · rename_i hc
            rw [equalIn_iface w (n + 1) u1 u2 hu (hT.info _ _ hi) hc]
            exact eqCell_ok (w := w) (hT.und hd1) n h1 h2 h
          · cases h
        · cases h
      · rw [if_neg c] at h
        cases h
        exact equalIn_iface_ne w _ u1 u2 hu c
    · rename_i e b1 o1 b2 o2
      obtain ⟨B1, hB1, rfl⟩ := ha.ptr_inv
      obtain ⟨B2, hB2, rfl⟩ := hb.ptr_inv
      refine ⟨by rw [eqGuard_at_pointer]; rfl, ?_⟩
      split at h
      · rename_i k hk
        by_cases c : b1 = b2
        · rw [if_pos c] at h
          cases h
          subst c
          rw [hB1] at hB2
          cases hB2
          rw [hn]
          simp only [Op.equalIn, Sem.run_bind, run_underlying hu, run_size hT hk, Result.andThen_ok]
          have e2 : ((⟨B1.cb, B1.base + o1, none⟩ : Addr) == ⟨B1.cb, B1.base + o2, none⟩) = (o1 == o2) := by
            rw [Bool.eq_iff_iff, beq_iff_eq, beq_iff_eq]
            constructor
            · intro h; have := (Addr.mk.inj h).2.1; omega
            · intro h; rw [h]
          simp [sameAddr]
          rw [← e2, Bool.eq_iff_iff]
        · rw [if_neg c] at h; cases h
      · cases h
    · rename_i fs as bs
      split at h
      · rename_i he
        obtain ⟨q1, q2, q3⟩ := hT.eqs t he
        obtain ⟨as', rfl, h1⟩ := ha.agg_inv
        obtain ⟨bs', rfl, h2⟩ := hb.agg_inv
        have hfo : P.fieldsOf t = fs := by simp [Program.fieldsOf, hu]
        rw [hfo] at q3
        refine ⟨run_eqGuard_agg w op t x y as' bs' q2, ?_⟩
        rw [hn, run_equalIn_struct w (n + 1) t as' bs' (by rw [hfo]; exact hu) q1, hfo]
        exact eqFieldsA_ok hT (w := w) n h1 h2 q3 h
      · cases h
    · rename_i len e as bs
      split at h
      · rename_i d1 he hag hsz hd1
        split at h
        · rename_i hl
          simp only [Bool.and_eq_true] at hl
          have hl1 : as.length = len := Nat.eq_of_beq_eq_true hl.1
          obtain ⟨q1, q2, q3⟩ := hT.eqs t he
          obtain ⟨as', rfl, h1⟩ := ha.agg_inv
          obtain ⟨bs', rfl, h2⟩ := hb.agg_inv
          obtain ⟨i, hi, hi2⟩ := hT.size hsz
          have hc : P.cellsOf e = 1 := by simp [Program.cellsOf, hi, hi2]
          refine ⟨run_eqGuard_agg w op t x y as' bs' q2, ?_⟩
          rw [hn, run_equalIn_array w (n + 1) as' bs' hu hi, hc, List.range_eq_range', ← hl1]
          exact eqRowA_ok (w := w) hT n (hT.und hd1) hag (by simpa using h1) (by simpa using h2) h
        · cases h
      · cases h
    · exact ⟨guard_plain w (eqCell_notNil ha hb h) (eqCell_notAgg ha h), by rw [hn]; exact eqCell_ok (w := w) hu _ ha hb h⟩
end
end Ev
end Go.Proofs.YtjmapihogpdocaaGreatDoor

/-! ## EvPure3 -/
namespace Go.Proofs.YtjmapihogpdocaaGreatDoor
namespace Ev
open Go

section
variable {T : Tab} {P : Program} (hT : TabOk T P) {r : Ren} (w : World)

def EqForm (t : TypeId) (a b : Value) : Prop :=
  Go.binOp .eql t a b = (do pure (.bool (← Op.equal t a b))) ∧ Go.binOp .neq t a b = (do pure (.bool (!(← Op.equal t a b))))

theorem eqCell_form {t : TypeId} {d : TypeDesc} {x y : AVal} {x' y' : Value} {b : Bool} (hx : VRel r x x') (hy : VRel r y y')
    (hi : ∀ k n k' n', x = .int k n → y = .int k' n' → False) (hs : ∀ s s', x = .str s → y = .str s' → False)
    (h : eqCell d x y = some b) : EqForm t x' y' := by
  unfold eqCell at h
  split at h
  · rw [hx.bool_inv, hy.bool_inv]; exact ⟨rfl, rfl⟩
  · exact (hi _ _ _ _ rfl rfl).elim
  · exact (hs _ _ rfl rfl).elim
  · rw [hx.nptr_inv, hy.nptr_inv]; exact ⟨rfl, rfl⟩
  · rw [hx.nptr_inv]; obtain ⟨B, _, rfl⟩ := hy.ptr_inv; exact ⟨rfl, rfl⟩
  · rw [hy.nptr_inv]; obtain ⟨B, _, rfl⟩ := hx.ptr_inv; exact ⟨rfl, rfl⟩
  · rw [hx.niface_inv]; obtain ⟨u, rfl, _⟩ := hy.iface_inv; exact ⟨rfl, rfl⟩
  · rw [hy.niface_inv]; obtain ⟨u, rfl, _⟩ := hx.iface_inv; exact ⟨rfl, rfl⟩
  · rw [hx.nslice_inv, hy.nslice_inv]; exact ⟨rfl, rfl⟩
  · rw [hx.nslice_inv]; obtain ⟨B, a, c, _, rfl, _⟩ := hy.slice_inv; exact ⟨rfl, rfl⟩
  · rw [hy.nslice_inv]; obtain ⟨B, a, c, _, rfl, _⟩ := hx.slice_inv; exact ⟨rfl, rfl⟩
  · rw [hx.nmap_inv, hy.nmap_inv]; exact ⟨rfl, rfl⟩
  · rw [hx.nmap_inv]; obtain ⟨B, _, rfl⟩ := hy.map_inv; exact ⟨rfl, rfl⟩
  · rw [hy.nmap_inv]; obtain ⟨B, _, rfl⟩ := hx.map_inv; exact ⟨rfl, rfl⟩
  · rw [hx.nfunc_inv, hy.nfunc_inv]; exact ⟨rfl, rfl⟩
  · rw [hx.nfunc_inv]; obtain ⟨a, c, rfl, _⟩ := hy.func_inv; exact ⟨rfl, rfl⟩
  · rw [hy.nfunc_inv]; obtain ⟨a, c, rfl, _⟩ := hx.func_inv; exact ⟨rfl, rfl⟩
  · cases h

theorem eqOp_form {t : TypeId} {x y : Operand} {a b : AVal} {a' b' : Value} {v : Bool} (ha : VRel r a a') (hb : VRel r b b')
    (hi : ∀ k n k' n', a = .int k n → b = .int k' n' → False) (hs : ∀ s s', a = .str s → b = .str s' → False)
    (h : eqOp T t x y a b = some v) : EqForm t a' b' := by
  unfold eqOp at h
  split at h
  · cases h
  · split at h
    · rw [ha.niface_inv, hb.niface_inv]; exact ⟨rfl, rfl⟩
    · obtain ⟨u1, rfl, h1⟩ := ha.iface_inv
      obtain ⟨u2, rfl, h2⟩ := hb.iface_inv
      exact ⟨rfl, rfl⟩
    · obtain ⟨B1, _, rfl⟩ := ha.ptr_inv
      obtain ⟨B2, _, rfl⟩ := hb.ptr_inv
      exact ⟨rfl, rfl⟩
    · obtain ⟨as', rfl, _⟩ := ha.agg_inv
      obtain ⟨bs', rfl, _⟩ := hb.agg_inv
      exact ⟨rfl, rfl⟩
    · obtain ⟨as', rfl, _⟩ := ha.agg_inv
      obtain ⟨bs', rfl, _⟩ := hb.agg_inv
      exact ⟨rfl, rfl⟩
    · exact eqCell_form ha hb hi hs h

include hT in
theorem binop_ok {op : BinOp} {t : TypeId} {x y : Operand} {a b : AVal} {a' b' : Value} {v : AVal} (ha : VRel r a a') (hb : VRel r b b')
    (h : binop T op t x y a b = some v) :
    ∃ v', (do eqGuard op t x y a' b'; Go.binOp op t a' b' : Sem Value).run P w = .ok v' w ∧ VRel r v v' := by
  unfold binop at h
  split at h
  · split at h
    · rw [ha.int_inv, hb.int_inv]
      rw [eqGuard_at_int]
      simpa [Go.binOp] using shiftOp_ok (P := P) (r := r) w h
    · cases h
  · split at h
    · rw [ha.int_inv, hb.int_inv]
      rw [eqGuard_at_int]
      simpa [Go.binOp] using shiftOp_ok (P := P) (r := r) w h
    · cases h
  · rename_i op hs hr
    split at h
    · rename_i k u k' v
      by_cases c : k = k'
      · rw [if_pos c] at h
        subst c
        rw [ha.int_inv, hb.int_inv, eqGuard_at_int]
        obtain ⟨v', e, hv⟩ := intOp_ok (P := P) (t := t) (r := r) w hs hr h
        exact ⟨v', by simpa using e, hv⟩
      · rw [if_neg c] at h; cases h
    · obtain ⟨s1, rfl, e1⟩ := ha.str_inv
      obtain ⟨s2, rfl, e2⟩ := hb.str_inv
      rw [eqGuard_at_string]
      subst e1; subst e2
      obtain ⟨v', e, hv⟩ := strOp_ok (P := P) (t := t) (r := r) w h
      exact ⟨v', by simpa using e, hv⟩
    · rename_i n1 n2
      split at h
      · cases hz : eqOp T t x y a b with
        | none => rw [hz] at h; cases h
        | some z =>
          rw [hz] at h
          cases h
          obtain ⟨e1, e2⟩ := eqOp_ok hT (w := w) .eql ha hb hz
          have f := (eqOp_form ha hb (fun k n k' n' e e' => n1 k n k' n' e e') (fun s s' e e' => n2 s s' e e') hz).1
          exact ⟨_, by simp [e1, f, e2], .bool _⟩
      · cases hz : eqOp T t x y a b with
        | none => rw [hz] at h; cases h
        | some z =>
          rw [hz] at h
          cases h
          obtain ⟨e1, e2⟩ := eqOp_ok hT (w := w) .neq ha hb hz
          have f := (eqOp_form ha hb (fun k n k' n' e e' => n1 k n k' n' e e') (fun s s' e e' => n2 s s' e e') hz).2
          exact ⟨_, by simp [e1, f, e2], .bool _⟩
      · cases h

theorem unop_ok {op : UnOp} {x : AVal} {x' : Value} {v : AVal} (hx : VRel r x x') (h : unop op x = some v) :
    ∃ v', (Op.unary op x').run P w = .ok v' w ∧ VRel r v v' := by
  unfold unop at h
  split at h
  · cases h; rw [hx.int_inv]; exact ⟨_, rfl, .int _ _⟩
  · rw [hx.int_inv]
    obtain ⟨v', e, hv⟩ := intBits_ok (P := P) (r := r) w h
    exact ⟨v', by simpa [Op.unary] using e, hv⟩
  · cases h; rw [hx.bool_inv]; exact ⟨_, rfl, .bool _⟩
  · cases h
end
end Ev
end Go.Proofs.YtjmapihogpdocaaGreatDoor

/-! ## EvPure4 -/
namespace Go.Proofs.YtjmapihogpdocaaGreatDoor
namespace Ev
open Go

section
variable {T : Tab} {P : Program} (hT : TabOk T P) {r : Ren} (w : World)

/-! Bounds -/
theorem bound_ok {x : AVal} {x' : Value} {most n y : Nat} (code : BoundsCode) (hx : VRel r x x') (h : bound x most = some n) (hy : most ≤ y) :
    (Instr.sliceBound x' y code).run P w = .ok n w ∧ n ≤ most := by
  unfold bound at h
  split at h
  · rename_i k i
    rw [hx.int_inv]
    split at h
    · rename_i hle
      cases h
      have c := Nat.le_of_ble_eq_true hle
      exact ⟨by simp [Instr.sliceBound, asIntOf]; intro h; omega, c⟩
    · cases h
  · cases h

inductive ORel (r : Ren) : Option AVal → Option Value → Prop where
  | none : ORel r none none
  | some {v : AVal} {v' : Value} (h : VRel r v v') : ORel r (some v) (some v')

theorem boundOr_ok {x : Option AVal} {x' : Option Value} {most n : Nat} (hx : ORel r x x') (e : boundOr x most 0 = some n) : n ≤ most := by
  cases hx with
  | none => cases e; exact Nat.zero_le _
  | some h => exact (bound_ok (P := ⟨default, #[]⟩) (w := default) .index h e (Nat.le_refl _)).2

theorem bounds2_ok {isSlice : Bool} {len most cap l h : Nat} {lo hi : Option AVal} {lo' hi' : Option Value}
    (hlo : ORel r lo lo') (hhi : ORel r hi hi') (e : bounds2 len most lo hi = some (l, h)) (hm : most ≤ cap) (hlen : len ≤ cap) :
    (Instr.sliceBounds isSlice len cap lo' hi' none).run P w = .ok (l, h, cap) w ∧ l ≤ h ∧ h ≤ cap := by
  unfold bounds2 at e
  cases hhi with
  | none =>
    simp only [boundOr] at e
    cases hlo with
    | none => cases e; exact ⟨by simp [Instr.sliceBounds], Nat.zero_le _, hlen⟩
    | some hv =>
      simp only at e
      split at e
      · cases e
      · rename_i l' hl
        cases e
        have := bound_ok (P := P) (w := w) .sliceB hv hl (Nat.le_refl _)
        exact ⟨by simp [Instr.sliceBounds, this.1], this.2, hlen⟩
  | some hu =>
    simp only [boundOr] at e
    split at e
    · cases e
    · rename_i h' hh
      have b1 := bound_ok (P := P) (w := w) (if isSlice then .sliceAcap else .sliceAlen) hu hh hm
      cases hlo with
      | none => cases e; exact ⟨by simp [Instr.sliceBounds, b1.1], Nat.zero_le _, by omega⟩
      | some hv =>
        simp only at e
        split at e
        · cases e
        · rename_i l' hl
          cases e
          have b2 := bound_ok (P := P) (w := w) .sliceB hv hl (Nat.le_refl _)
          exact ⟨by simp [Instr.sliceBounds, b1.1, b2.1], b2.2, by omega⟩

theorem bounds3_ok {isSlice : Bool} {len most cap l h m : Nat} {lo : Option AVal} {hi mx : AVal} {lo' : Option Value} {hi' mx' : Value}
    (hlo : ORel r lo lo') (hhi : VRel r hi hi') (hmx : VRel r mx mx') (e : bounds3 most lo hi mx = some (l, h, m)) (hm : most ≤ cap) :
    (Instr.sliceBounds isSlice len cap lo' (some hi') (some mx')).run P w = .ok (l, h, m) w ∧ l ≤ h ∧ h ≤ m ∧ m ≤ most := by
  unfold bounds3 at e
  split at e
  · cases e
  · rename_i m' hm'
    have b0 := bound_ok (P := P) (w := w) (if isSlice then .slice3Acap else .slice3Alen) hmx hm' hm
    split at e
    · cases e
    · rename_i h' hh
      have b1 := bound_ok (P := P) (w := w) .slice3B hhi hh (Nat.le_refl _)
      cases hlo with
      | none => cases e; exact ⟨by simp [Instr.sliceBounds, b0.1, b1.1], Nat.zero_le _, b1.2, b0.2⟩
      | some hv =>
        simp only [boundOr] at e
        split at e
        · cases e
        · rename_i l' hl
          cases e
          have b2 := bound_ok (P := P) (w := w) .slice3C hv hl (Nat.le_refl _)
          exact ⟨by simp [Instr.sliceBounds, b0.1, b1.1, b2.1], b2.2, b1.2, b0.2⟩

theorem Addr_add (b o n : Nat) : (⟨b, o, none⟩ : Addr).add n = ⟨b, o + n, none⟩ := by
  unfold Addr.add
  by_cases h : n = 0
  · rw [if_pos h, h]; rfl
  · rw [if_neg h]


theorem Cap.low_le {cap : Cap} {c : Nat} (h : cap.holds c) : cap.low ≤ c := by
  cases cap with
  | exact n => exact Nat.le_of_eq h.symm
  | least n => exact h

/-- A piece of a slice. -/
theorem piece_rel {b o esz : Nat} {B : Blk} {a : Addr} {c l h m : Nat} {cap' : Cap} (hB : r.at_ b = some B)
    (hr : c = 0 ∨ (a = ⟨B.cb, B.base + o, none⟩ ∧ B.base + o + c * esz ≤ B.size)) (hlh : l ≤ h) (hm : h ≤ m) (hc : m ≤ c) (hcap : cap'.holds (m - l)) :
    VRel r (.slice b (o + l * esz) (h - l) esz cap') (.slice (if m = l then some a else (some a).map (·.add (l * esz))) (h - l) (m - l)) := by
  by_cases e : m = l
  · rw [if_pos e]
    exact .slice b _ _ esz cap' B a _ hB hcap (by omega) (.inl (by omega))
  · rw [if_neg e]
    rcases hr with hr | ⟨ha, hs⟩
    · omega
    · subst ha
      rw [Option.map_some, Addr_add]
      refine .slice b _ _ esz cap' B _ _ hB hcap (by omega) (.inr ⟨by rw [Nat.add_assoc], ?_⟩)
      have : l * esz + (m - l) * esz = m * esz := by rw [← Nat.add_mul]; congr 1; omega
      have h2 : m * esz ≤ c * esz := Nat.mul_le_mul_right _ hc
      omega

include hT in
theorem sliceOp_ok {t : TypeId} {x : AVal} {x' : Value} {lo hi mx : Option AVal} {lo' hi' mx' : Option Value} {v : AVal}
    (hx : VRel r x x') (hlo : ORel r lo lo') (hhi : ORel r hi hi') (hmx : ORel r mx mx') (h : sliceOp T t x lo hi mx = some v) :
    ∃ v', (Instr.sliceAt t x' lo' hi' mx').run P w = .ok v' w ∧ VRel r v v' := by
  unfold sliceOp at h
  split at h
  · rename_i s hd
    obtain ⟨s', rfl, es⟩ := hx.str_inv
    cases hmx with
    | some _ => simp at h
    | none =>
      simp only at h
      split at h
      · rename_i l h' hb
        cases h
        have hz : s.length = s'.size := by rw [← es, data_size]
        rw [hz] at hb
        obtain ⟨b1, b2, b3⟩ := bounds2_ok (P := P) (w := w) (isSlice := false) hlo hhi hb (Nat.le_refl _) (Nat.le_refl _)
        refine ⟨.string (s'.extract l h'), by simp [Instr.sliceAt, Instr.slice, run_und hT hd, b1], .str _ _ ?_⟩
        rw [Lib.extract_data, es, List.drop_take]
      · cases h
  · rename_i e hd
    rw [hx.nslice_inv]
    split at h
    · cases h
    · rename_i n hn
      split at h
      · split at h
        · rename_i lh hb
          cases h
          cases hmx
          obtain ⟨l, h'⟩ := lh
          obtain ⟨b1, b2, b3⟩ := bounds2_ok (P := P) (w := w) (isSlice := true) hlo hhi hb (Nat.le_refl _) (Nat.le_refl _)
          have z1 : h' = 0 := by omega
          have z2 : l = 0 := by omega
          subst z1; subst z2
          exact ⟨.slice none 0 0, by simp [Instr.sliceAt, Instr.slice, run_und hT hd, b1, run_size hT hn], .nslice⟩
        · cases h
      · split at h
        · rename_i lhm hb
          cases h
          obtain ⟨l, h', m⟩ := lhm
          cases hmx with
          | some hz => cases hhi with
            | some hu =>
              obtain ⟨b1, b2, b3, b4⟩ := bounds3_ok (P := P) (w := w) (isSlice := true) (len := 0) hlo hu hz hb (Nat.le_refl _)
              have z0 : m = 0 := by omega
              have z1 : h' = 0 := by omega
              have z2 : l = 0 := by omega
              subst z0; subst z1; subst z2
              exact ⟨.slice none 0 0, by simp [Instr.sliceAt, Instr.slice, run_und hT hd, b1, run_size hT hn], .nslice⟩
        · cases h
      · cases h
  · rename_i e b o len esz cap hd
    obtain ⟨B, a, c, hB, rfl, hc, hl, hr⟩ := hx.slice_inv
    split at h
    · cases h
    · rename_i n hn
      split at h
      · cases h
      · rename_i hbe
        have hne : n = esz := Nat.eq_of_beq_eq_true hbe
        subst hne
        have hlow := Cap.low_le hc
        split at h
        · split at h
          · rename_i l h' hb
            cases h
            cases hmx
            obtain ⟨b1, b2, b3⟩ := bounds2_ok (P := P) (w := w) (isSlice := true) hlo hhi hb hlow hl
            refine ⟨_, by simp [Instr.sliceAt, Instr.slice, run_und hT hd, b1, run_size hT hn]; rfl, ?_⟩
            refine piece_rel hB hr b2 b3 (Nat.le_refl _) ?_
            cases cap with
            | exact k => simp only [Cap.holds, Cap.less] at hc ⊢; omega
            | least k => simp only [Cap.holds, Cap.less] at hc ⊢; omega
          · cases h
        · split at h
          · rename_i l h' m hb
            cases h
            cases hmx with
            | some hz => cases hhi with
              | some hu =>
                obtain ⟨b1, b2, b3, b4⟩ := bounds3_ok (P := P) (w := w) (isSlice := true) (len := len) hlo hu hz hb hlow
                refine ⟨_, by simp [Instr.sliceAt, Instr.slice, run_und hT hd, b1, run_size hT hn]; rfl, ?_⟩
                exact piece_rel hB hr b2 b3 (by omega) rfl
          · cases h
        · cases h
  · cases h

/-! Places -/
include hT in
theorem fieldAddrOp_ok {s : TypeId} {x : AVal} {x' : Value} {f : Nat} {v : AVal} (hx : VRel r x x') (h : fieldAddrOp T s x f = some v) :
    ∃ v', (Instr.fieldAt s x' f).run P w = .ok v' w ∧ VRel r v v' := by
  unfold fieldAddrOp at h
  split at h
  · rename_i fs b o hd
    obtain ⟨B, hB, rfl⟩ := hx.ptr_inv
    split at h
    · rename_i fd hf
      split at h
      · rename_i n hn
        cases h
        refine ⟨_, by simp [Instr.fieldAt, run_und hT hd, hf, Instr.sureAddr, fieldPlace, run_size hT hn, Addr_add]; rfl, ?_⟩
        rw [Nat.add_assoc]
        exact .ptr b (o + fd.offset) B hB
      · cases h
    · cases h
  · cases h

include hT in
theorem fieldOp_ok {t : TypeId} {x : AVal} {x' : Value} {f : Nat} {v : AVal} (hx : VRel r x x') (h : fieldOp T t x f = some v) :
    ∃ v', (Instr.field t x' f).run P w = .ok v' w ∧ VRel r v v' := by
  unfold fieldOp at h
  split at h
  · rename_i fs cs hd
    obtain ⟨cs', rfl, hc⟩ := hx.agg_inv
    split at h
    · rename_i fd hf
      obtain ⟨v', e, hv⟩ := partOf_ok hT w hc h
      exact ⟨v', by simp [Instr.field, run_und hT hd, hf, asAgg, e], hv⟩
    · cases h
  · cases h

include hT in
theorem indexAddrOp_ok {t : TypeId} {x i : AVal} {x' i' : Value} {v : AVal} (hx : VRel r x x') (hi : VRel r i i') (h : indexAddrOp T t x i = some v) :
    ∃ v', (Instr.indexAt t x' i').run P w = .ok v' w ∧ VRel r v v' := by
  unfold indexAddrOp at h
  split at h
  · rename_i k i
    rw [hi.int_inv]
    split at h
    · rename_i n e b o hd
      obtain ⟨B, hB, rfl⟩ := hx.ptr_inv
      split at h
      · rename_i esz hn
        by_cases c : 0 ≤ i ∧ i < (n : Int)
        · rw [if_pos c] at h
          cases h
          refine ⟨_, by simp [Instr.indexAt, asIntOf, run_und hT hd, Instr.sureAddr, c, run_size hT hn, Addr_add]; rfl, ?_⟩
          rw [Nat.add_assoc]
          exact .ptr b _ B hB
        · rw [if_neg c] at h; cases h
      · cases h
    · rename_i e b o len esz cap hd
      obtain ⟨B, a, c, hB, rfl, hc, hl, hr⟩ := hx.slice_inv
      split at h
      · rename_i n hn
        split at h
        · rename_i hbe
          have hne : n = esz := Nat.eq_of_beq_eq_true hbe
          subst hne
          by_cases ci : 0 ≤ i ∧ i < (len : Int)
          · rw [if_pos ci] at h
            cases h
            rcases hr with hr | ⟨ha, _⟩
            · omega
            · subst ha
              refine ⟨_, by simp [Instr.indexAt, asIntOf, run_und hT hd, ci, run_size hT hn, Addr_add]; rfl, ?_⟩
              rw [Nat.add_assoc]
              exact .ptr b _ B hB
          · rw [if_neg ci] at h; cases h
        · cases h
      · cases h
    · cases h
  · cases h

include hT in
theorem indexOp_ok {t : TypeId} {x i : AVal} {x' i' : Value} {v : AVal} (hx : VRel r x x') (hi : VRel r i i') (h : indexOp T t x i = some v) :
    ∃ v', (Instr.index t x' i').run P w = .ok v' w ∧ VRel r v v' := by
  unfold indexOp at h
  split at h
  · rename_i k i
    rw [hi.int_inv]
    split at h
    · rename_i n e cs hd
      obtain ⟨cs', rfl, hc⟩ := hx.agg_inv
      split at h
      · rename_i esz hn
        by_cases c : 0 ≤ i ∧ i < (n : Int)
        · rw [if_pos c] at h
          obtain ⟨v', e, hv⟩ := partOf_ok hT w hc h
          exact ⟨v', by simp [Instr.index, asIntOf, run_und hT hd, c, run_size hT hn, e], hv⟩
        · rw [if_neg c] at h; cases h
      · cases h
    · rename_i s hd
      obtain ⟨s', rfl, es⟩ := hx.str_inv
      by_cases c : 0 ≤ i
      · rw [if_pos c] at h
        split at h
        · rename_i b hb
          cases h
          have hlt : i.toNat < s'.size := by
            rw [← data_size, es]
            rcases Nat.lt_or_ge i.toNat s.length with z | z
            · exact z
            · rw [List.getElem?_eq_none z] at hb; cases hb
          have e1 : s'[i.toNat]? = some (s'[i.toNat]'hlt) := ByteArray.getElem?_lt' s' _ hlt
          have e2 : s'[i.toNat]'hlt = b := by
            have : s'.data.toList[i.toNat]? = some b := by rw [es]; exact hb
            have h3 : i.toNat < s'.data.toList.length := by rw [data_size]; exact hlt
            rw [List.getElem?_eq_getElem h3] at this
            have := Option.some.inj this
            rw [← this]
            rfl
          refine ⟨_, by simp [Instr.index, asIntOf, run_und hT hd, c, e1, e2], .int _ _⟩
        · cases h
      · rw [if_neg c] at h; cases h
    · cases h
  · cases h

include hT in
theorem assertOp_ok {x : AVal} {x' : Value} {xt at_ : TypeId} {ok : Bool} {v : AVal} (hx : VRel r x x') (h : assertOp T x at_ ok = some v) :
    ∃ v', (Instr.typeAssert x' xt at_ ok).run P w = .ok v' w ∧ VRel r v v' := by
  have two : ∀ {a b : AVal} {a' b' : Value}, VRel r a a' → VRel r b b' → VRel r (.tuple [a, b]) (.tuple #[a', b']) := fun h k => .tupleOf (.cons h (.cons k (.nil r)))
  unfold assertOp at h
  split at h
  · cases h
  · cases h
  · rename_i d hn hd
    have e0 : ∀ ms, d ≠ .interface ms := fun ms e => hn ms e
    split at h
    · rw [hx.niface_inv]
      split at h
      · cases hz : T.zero at_ with
        | none => rw [hz] at h; cases h
        | some z =>
          rw [hz] at h
          cases h
          obtain ⟨z', ez, rfl⟩ := run_zero hT hz w
          refine ⟨.tuple #[z', .bool false], ?_, two (absV_rel r z') (.bool _)⟩
          cases d <;> first | exact absurd rfl (e0 _) | simp [Instr.typeAssert, run_und hT hd, ez]
      · cases h
    · rename_i t u
      obtain ⟨u', rfl, hu⟩ := hx.iface_inv
      by_cases c : t = at_
      · rw [if_pos c] at h
        cases ok with
        | true =>
          cases h
          refine ⟨.tuple #[u', .bool true], ?_, two hu (.bool _)⟩
          cases d <;> first | exact absurd rfl (e0 _) | simp [Instr.typeAssert, run_und hT hd, c]
        | false =>
          cases h
          refine ⟨u', ?_, hu⟩
          cases d <;> first | exact absurd rfl (e0 _) | simp [Instr.typeAssert, run_und hT hd, c]
      · rw [if_neg c] at h
        split at h
        · cases hz : T.zero at_ with
          | none => rw [hz] at h; cases h
          | some z =>
            rw [hz] at h
            cases h
            obtain ⟨z', ez, rfl⟩ := run_zero hT hz w
            refine ⟨.tuple #[z', .bool false], ?_, two (absV_rel r z') (.bool _)⟩
            cases d <;> first | exact absurd rfl (e0 _) | simp [Instr.typeAssert, run_und hT hd, c, ez]
        · cases h
    · cases h
end
end Ev
end Go.Proofs.YtjmapihogpdocaaGreatDoor

/-! ## EvPure5 -/
namespace Go.Proofs.YtjmapihogpdocaaGreatDoor
namespace Ev
open Go
variable {D : Keep}

section
variable {T : Tab} {P : Program} (hT : TabOk T P) {r : Ren} (w : World)

/-! Literals -/
theorem foldl_set : ∀ (vs : List Value) (j off : Nat) (cells : Array Value), off + j + vs.length ≤ cells.size →
    (vs.zipIdx j |>.foldl (fun cs (x : Value × Nat) => cs.setIfInBounds (off + x.2) x.1) cells).toList =
      cells.toList.take (off + j) ++ vs ++ cells.toList.drop (off + j + vs.length) := by
  intro vs
  induction vs with
  | nil => intro j off cells h; simp
  | cons v vs ih =>
    intro j off cells h
    simp only [List.zipIdx_cons, List.foldl_cons]
    simp only [List.length_cons] at h
    rw [ih (j + 1) off _ (by simp; omega)]
    simp only [Array.toList_setIfInBounds, List.length_cons]
    have h1 : off + j < cells.toList.length := by simp; omega
    rw [List.take_set, List.drop_set]
    rw [show off + (j + 1) = off + j + 1 from by omega]
    rw [if_pos (by omega)]
    rw [List.take_succ_eq_append_getElem h1]
    have e : (List.take (off + j) cells.toList ++ [cells.toList[off + j]]).set (off + j) v = List.take (off + j) cells.toList ++ [v] := by
      have hl : (List.take (off + j) cells.toList).length = off + j := by simp; omega
      rw [List.set_append, if_neg (by omega), hl]
      simp
    rw [e]
    simp only [List.append_assoc, List.cons_append, List.nil_append]
    rw [show off + j + 1 + vs.length = off + j + (vs.length + 1) from by omega]

theorem fillOp_ok {place : Nat → Option (Nat × Nat)} : ∀ {parts : List (Nat × AVal)} {parts' : List (Nat × Value)} {cs : List AVal} {cs' : Array Value} {out : List AVal},
    VsRel r cs cs'.toList → parts'.map (·.1) = parts.map (·.1) → VsRel r (parts.map (·.2)) (parts'.map (·.2)) → fillOp place cs parts = some out →
    ∃ out' : Array Value, Instr.fill place cs' parts' = some out' ∧ VsRel r out out'.toList := by
  intro parts
  induction parts with
  | nil =>
    intro parts' cs cs' out hc h1 h2 h
    cases parts' with
    | nil => cases h; exact ⟨cs', rfl, hc⟩
    | cons => simp at h1
  | cons p rest ih =>
    intro parts' cs cs' out hc h1 h2 h
    cases parts' with
    | nil => simp at h1
    | cons p' rest' =>
      obtain ⟨i, v⟩ := p
      obtain ⟨i', v'⟩ := p'
      simp only [List.map_cons, List.cons.injEq] at h1
      obtain ⟨hi, h1⟩ := h1
      subst hi
      have hv : VRel r v v' := h2.head
      simp only [fillOp] at h
      split at h
      · cases h
      · rename_i off size hp
        have hne : v ≠ .any ∧ ∀ vs, v ≠ .tuple vs := by
          constructor
          · intro e; subst e; simp at h
          · intro vs e; subst e; simp at h
        have hvc := hv.cells hne.1 hne.2
        have key : (Nat.beq v.cells.length size && Nat.ble (off + v.cells.length) cs.length) = true ∧ fillOp place (over cs off v.cells) rest = some out := by
          split at h
          · cases h
          · cases h
          · split at h
            · rename_i hb; exact ⟨hb, h⟩
            · cases h
        obtain ⟨hb, h⟩ := key
        rw [Bool.and_eq_true] at hb
        have hb1 : v.cells.length = size := Nat.eq_of_beq_eq_true hb.1
        have hb2 := Nat.le_of_ble_eq_true hb.2
        have l1 : v'.cells.size = v.cells.length := by have := hvc.len; simpa using this
        have l2 : cs'.size = cs.length := by have := hc.len; simpa using this
        have e := foldl_set v'.cells.toList 0 off cs' (by simp [l1, l2]; omega)
        have hov : VsRel r (over cs off v.cells) (v'.cells.zipIdx.foldl (fun cs (x : Value × Nat) => cs.setIfInBounds (off + x.2) x.1) cs').toList := by
          have e2 : (v'.cells.zipIdx.foldl (fun cs (x : Value × Nat) => cs.setIfInBounds (off + x.2) x.1) cs') = (v'.cells.toList.zipIdx 0 |>.foldl (fun cs (x : Value × Nat) => cs.setIfInBounds (off + x.2) x.1) cs') := by
            rw [← Array.foldl_toList, Array.toList_zipIdx]
          rw [e2, e]
          exact hc.over hvc off
        obtain ⟨out', ho, hr⟩ := ih hov h1 h2.tail h
        refine ⟨out', ?_, hr⟩
        simp only [Instr.fill, hp]
        rw [if_neg (by simp [l1, l2, hb1]; omega)]
        exact ho

include hT in
theorem places_ok : ∀ {fs : List Field} {ps : List (Nat × Nat)}, placesOf T fs = some ps →
    (fs.mapM (m := Sem) fun f => Prod.mk f.offset <$> sizeOf f.type).run P w = .ok ps w := by
  intro fs
  induction fs with
  | nil => intro ps h; cases h; rfl
  | cons f fs ih =>
    intro ps h
    simp only [placesOf] at h
    split at h
    · rename_i n rest hn hr
      cases h
      simp [List.mapM_cons, run_size hT hn, ih hr]
    · cases h

theorem parts_rel {n : Nat} {t : Tree AVal} {a : Act} (hg : GlobOk T r) (ht : TRel D r t n a) (parts : Array (Nat × Operand)) :
    ((parts.map fun (i, x) => (i, a.eval x)).toList.map (·.1) = (parts.toList.map fun p => (p.1, ev T t p.2)).map (·.1)) ∧
    VsRel r ((parts.toList.map fun p => (p.1, ev T t p.2)).map (·.2)) ((parts.map fun (i, x) => (i, a.eval x)).toList.map (·.2)) := by
  refine ⟨by simp, ⟨by simp, fun i v v' x y => ?_⟩⟩
  simp only [List.map_map, List.getElem?_map, Array.toList_map, Option.map_eq_some_iff] at x y
  obtain ⟨p, hp, rfl⟩ := x
  obtain ⟨p', hp', rfl⟩ := y
  rw [hp] at hp'
  cases hp'
  exact ev_rel hg ht _

include hT in
theorem buildOp_ok {u : TypeId} {parts : List (Nat × AVal)} {parts' : Array (Nat × Value)} {v : AVal}
    (h1 : parts'.toList.map (·.1) = parts.map (·.1)) (h2 : VsRel r (parts.map (·.2)) (parts'.toList.map (·.2))) (h : buildOp T u parts = some v) :
    ∃ v', (Instr.build u parts').run P w = .ok v' w ∧ VRel r v v' := by
  unfold buildOp at h
  split at h
  · rename_i zs fs hz hd
    obtain ⟨z', ez, hzr⟩ := run_zero hT hz w
    have hzrel : VRel r (.agg zs) z' := by rw [hzr]; exact absV_rel r z'
    obtain ⟨zc, rfl, hzc⟩ := hzrel.agg_inv
    split at h
    · rename_i ps hps
      cases hf : fillOp (fun i => ps[i]?) zs parts with
      | none => rw [hf] at h; cases h
      | some out =>
        rw [hf] at h
        cases h
        obtain ⟨out', ho, hr⟩ := fillOp_ok hzc h1 h2 hf
        refine ⟨.agg out', ?_, .aggOf hr⟩
        have hm : (fs.mapM (m := Sem) fun f => Prod.mk f.offset <$> sizeOf f.type).run P w = .ok ps.toArray w := by
          rw [Array.mapM_eq_mapM_toList]
          simp only [Sem.run_map, places_ok hT w hps, Result.andThen_ok]
        simp [Instr.build, ez, run_und hT hd, hm, Value.cells, ho]
    · cases h
  · rename_i zs n e hz hd
    obtain ⟨z', ez, hzr⟩ := run_zero hT hz w
    have hzrel : VRel r (.agg zs) z' := by rw [hzr]; exact absV_rel r z'
    obtain ⟨zc, rfl, hzc⟩ := hzrel.agg_inv
    split at h
    · rename_i k hk
      cases hf : fillOp (fun i => some (i * k, k)) zs parts with
      | none => rw [hf] at h; cases h
      | some out =>
        rw [hf] at h
        cases h
        obtain ⟨out', ho, hr⟩ := fillOp_ok hzc h1 h2 hf
        exact ⟨.agg out', by simp [Instr.build, ez, run_und hT hd, run_size hT hk, Value.cells, ho], .aggOf hr⟩
    · cases h
  · cases h

/-! Builtins that only look at values -/
theorem minInts_ok : ∀ {xs : List AVal} {x : AVal} {x' : Value} {xs' : List Value} {v : AVal}, VRel r x x' → VsRel r xs xs' → minInts x xs = some v →
    ∃ v', (xs'.foldlM Builtin.min2 x').run P w = .ok v' w ∧ VRel r v v' := by
  intro xs
  induction xs with
  | nil => intro x x' xs' v hx hxs h; rw [hxs.nil_inv]; cases h; exact ⟨x', rfl, hx⟩
  | cons y ys ih =>
    intro x x' xs' v hx hxs h
    obtain ⟨y', ys', rfl, hy, hys⟩ := hxs.cons_inv
    simp only [minInts] at h
    split at h
    · rename_i k a k' b
      rw [hx.int_inv, hy.int_inv]
      obtain ⟨v', e, hv⟩ := ih (.int k (if b < a then b else a)) hys h
      exact ⟨v', by simpa [Builtin.min2] using e, hv⟩
    · cases h

theorem maxInts_ok : ∀ {xs : List AVal} {x : AVal} {x' : Value} {xs' : List Value} {v : AVal}, VRel r x x' → VsRel r xs xs' → maxInts x xs = some v →
    ∃ v', (xs'.foldlM Builtin.max2 x').run P w = .ok v' w ∧ VRel r v v' := by
  intro xs
  induction xs with
  | nil => intro x x' xs' v hx hxs h; rw [hxs.nil_inv]; cases h; exact ⟨x', rfl, hx⟩
  | cons y ys ih =>
    intro x x' xs' v hx hxs h
    obtain ⟨y', ys', rfl, hy, hys⟩ := hxs.cons_inv
    simp only [maxInts] at h
    split at h
    · rename_i k a k' b
      rw [hx.int_inv, hy.int_inv]
      obtain ⟨v', e, hv⟩ := ih (.int k (if b > a then b else a)) hys h
      exact ⟨v', by simpa [Builtin.max2] using e, hv⟩
    · cases h

include hT in
theorem lenOp_ok {t : TypeId} {ts : Array TypeId} {ty : TypeId} {x : AVal} {x' : Value} {args : Array Value} {v : AVal} (h0 : ts[0]? = some t) (h1 : args[0]? = some x') (hx : VRel r x x')
    (h : lenOp T t x = some v) : ∃ v', (Builtin.len_ ts ty args).run P w = .ok v' w ∧ VRel r v v' := by
  unfold lenOp at h
  split at h
  · rename_i s hd
    cases h
    obtain ⟨s', rfl, es⟩ := hx.str_inv
    rw [← es, data_size]
    exact ⟨_, by simp [Builtin.len_, h0, h1, run_und hT hd]; rfl, .int _ _⟩
  · rename_i n e hd
    cases h
    refine ⟨_, ?_, .int .i64 n⟩
    simp [Builtin.len_, h0, h1, run_und hT hd]
    rfl
  · rename_i a hd
    split at h
    · rename_i n e hd2
      cases h
      refine ⟨_, ?_, .int .i64 n⟩
      simp [Builtin.len_, h0, h1, run_und hT hd, run_und hT hd2]
      rfl
    · cases h
  · rename_i e hd
    cases h
    rw [hx.nslice_inv] at h1
    exact ⟨_, by simp [Builtin.len_, h0, h1, run_und hT hd]; rfl, .int _ _⟩
  · rename_i e b o n esz c hd
    cases h
    obtain ⟨B, a, c, hB, rfl, hc, hl, hr⟩ := hx.slice_inv
    exact ⟨_, by simp [Builtin.len_, h0, h1, run_und hT hd]; rfl, .int _ _⟩
  · rename_i e k hd
    cases h
    rw [hx.nmap_inv] at h1
    exact ⟨_, by simp [Builtin.len_, h0, h1, run_und hT hd]; rfl, .int _ _⟩
  · cases h

include hT in
theorem capOp_ok {t : TypeId} {ts : Array TypeId} {ty : TypeId} {x : AVal} {x' : Value} {args : Array Value} {v : AVal} (h0 : ts[0]? = some t) (h1 : args[0]? = some x') (hx : VRel r x x')
    (h : capOp T t x = some v) : ∃ v', (Builtin.cap_ ts ty args).run P w = .ok v' w ∧ VRel r v v' := by
  unfold capOp at h
  split at h
  · rename_i n e hd
    cases h
    refine ⟨_, ?_, .int .i64 n⟩
    simp [Builtin.cap_, h0, h1, run_und hT hd]
    rfl
  · rename_i e hd
    cases h
    rw [hx.nslice_inv] at h1
    exact ⟨_, by simp [Builtin.cap_, h0, h1, run_und hT hd]; rfl, .int _ _⟩
  · rename_i e b o len esz n hd
    cases h
    obtain ⟨B, a, c, hB, rfl, hc, hl, hr⟩ := hx.slice_inv
    cases hc
    exact ⟨_, by simp [Builtin.cap_, h0, h1, run_und hT hd]; rfl, .int _ _⟩
  · cases h

include hT in
theorem convOp_ok {src dst : TypeId} {x : AVal} {x' : Value} {v : AVal} (hx : VRel r x x') (h : convOp T src dst x = some v) :
    ∃ v', (Go.convert src dst x').run P w = .ok v' w ∧ VRel r v v' := by
  unfold convOp at h
  split at h
  · rename_i d k k' n hs hd
    cases h
    rw [hx.int_inv]
    exact ⟨_, by simp [Go.convert, run_und hT hs, run_und hT hd, Conv.intToInt], .int _ _⟩
  · rename_i d s hs hd
    cases h
    obtain ⟨s', rfl, es⟩ := hx.str_inv
    exact ⟨.string s', by simp [Go.convert, run_und hT hs, run_und hT hd], .str _ _ es⟩
  · cases h

theorem oRel {n : Nat} {t : Tree AVal} {a : Act} (hg : GlobOk T r) (ht : TRel D r t n a) (x : Option Operand) : ORel r (x.map (ev T t)) (x.map a.eval) := by
  cases x with
  | none => exact .none
  | some x => exact .some (ev_rel hg ht x)

/-- What an operation that is a value gives. -/
def GivesV (P : Program) (a : Act) (o : Oper) (w : World) (r : Ren) (v : AVal) (w' : World) : Prop :=
  ∃ v', (execOp a.eval o).run P w = .ok (.value v') w' ∧ VRel r v v'

theorem givesV_of {a : Act} {o : Oper} {v : AVal} {x : Sem Value} {w' : World} (e : execOp a.eval o = (do pure (.value (← x)))) (h : ∃ v', x.run P w = .ok v' w' ∧ VRel r v v') : GivesV P a o w r v w' := by
  obtain ⟨v', e1, hv⟩ := h
  exact ⟨v', by rw [e]; simp [e1], hv⟩

include hT in
theorem pureBuiltin_ok {b : Builtin} {ts : Array TypeId} {ty : TypeId} {cs : Array Bool} {args : List AVal} {args' : Array Value} {v : AVal} (ha : VsRel r args args'.toList)
    (h : pureBuiltin T b ts args = some v) : ∃ v', (builtin b ts ty cs args').run P w = .ok (.value v') w ∧ VRel r v v' := by
  unfold pureBuiltin at h
  split at h
  · rename_i x rest
    obtain ⟨x', rest', e, hx, _⟩ := ha.cons_inv
    split at h
    · rename_i t ht
      have h1 : args'[0]? = some x' := by rw [← Array.getElem?_toList, e]; rfl
      obtain ⟨v', e1, hv⟩ := lenOp_ok hT w (ty := ty) ht h1 hx h
      exact ⟨v', by simp [builtin, e1], hv⟩
    · cases h
  · rename_i x rest
    obtain ⟨x', rest', e, hx, _⟩ := ha.cons_inv
    split at h
    · rename_i t ht
      have h1 : args'[0]? = some x' := by rw [← Array.getElem?_toList, e]; rfl
      obtain ⟨v', e1, hv⟩ := capOp_ok hT w (ty := ty) ht h1 hx h
      exact ⟨v', by simp [builtin, e1], hv⟩
    · cases h
  · rename_i x rest
    obtain ⟨x', rest', e, hx, hr⟩ := ha.cons_inv
    obtain ⟨v', e1, hv⟩ := minInts_ok (P := P) w hx hr h
    exact ⟨v', by simp [builtin, Builtin.min_, e, e1], hv⟩
  · rename_i x rest
    obtain ⟨x', rest', e, hx, hr⟩ := ha.cons_inv
    obtain ⟨v', e1, hv⟩ := maxInts_ok (P := P) w hx hr h
    exact ⟨v', by simp [builtin, Builtin.max_, e, e1], hv⟩
  · cases h
    obtain ⟨x', rest', e, hx, hr⟩ := ha.cons_inv
    rw [hr.nil_inv, hx.nslice_inv] at e
    have e' : args' = #[.slice none 0 0] := Array.toList_inj.1 e
    subst e'
    exact ⟨.pointer none, rfl, .nptr⟩
  · rename_i b o len esz c
    split at h
    · cases h
    · rename_i n hc
      cases h
      obtain ⟨x', rest', e, hx, hr⟩ := ha.cons_inv
      obtain ⟨B, a, k, hB, rfl, hcap, hl, haddr⟩ := hx.slice_inv
      rw [hr.nil_inv] at e
      have e' : args' = #[.slice (some a) len k] := Array.toList_inj.1 e
      subst e'
      have hk : k ≠ 0 := by have := Cap.low_le hcap; omega
      rcases haddr with h0 | ⟨h0, _⟩
      · exact absurd h0 hk
      · subst h0
        obtain ⟨k, rfl⟩ : ∃ j, k = j + 1 := ⟨k - 1, by omega⟩
        exact ⟨_, rfl, .ptr b o B hB⟩
  · cases h

include hT in
/-- THE PURE OPERATIONS. -/
theorem evP_ok {n : Nat} {t : Tree AVal} {a : Act} {o : Oper} {v : AVal} (hg : GlobOk T r) (ht : TRel D r t n a) (h : evP T t o.op = some v) : GivesV P a o w r v w := by
  have E := fun x => ev_rel hg ht x
  cases ho : o.op with
  | move x => rw [ho] at h; cases h; exact ⟨_, by simp [execOp, ho], E x⟩
  | assign x => rw [ho] at h; cases h; exact ⟨_, by simp [execOp, ho], E x⟩
  | pick c x y =>
    rw [ho] at h
    simp only [evP] at h
    split at h
    · rename_i hc; cases h; have := E c; rw [hc] at this; exact ⟨_, by simp [execOp, ho, this.bool_inv, asBool], E x⟩
    · rename_i hc; cases h; have := E c; rw [hc] at this; exact ⟨_, by simp [execOp, ho, this.bool_inv, asBool], E y⟩
    · cases h
  | nilCheck x =>
    rw [ho] at h
    simp only [evP] at h
    have hx := E x
    split at h
    · rename_i hc; cases h; rw [hc] at hx; obtain ⟨B, hB, e⟩ := hx.ptr_inv; exact ⟨_, by simp [execOp, ho, e], .ptr _ _ B hB⟩
    · rename_i f a1 b1 hc; cases h; rw [hc] at hx; obtain ⟨f', c', e, h1, h2⟩ := hx.func_inv; exact ⟨_, by simp [execOp, ho, e], .func _ _ _ _ _ h1.len h2.len h1.at_ h2.at_⟩
    · rename_i u1 v1 hc; cases h; rw [hc] at hx; obtain ⟨u', e, h1⟩ := hx.iface_inv; exact ⟨_, by simp [execOp, ho, e], .iface _ _ _ h1⟩
    · cases h
  | binOp op xt x y yt =>
    rw [ho] at h
    exact givesV_of w (by simp only [execOp, ho]) (binop_ok hT w (E x) (E y) h)
  | unOp op xt x =>
    rw [ho] at h
    exact givesV_of w (by simp only [execOp, ho]) (unop_ok w (E x) h)
  | convert s d x =>
    rw [ho] at h
    exact givesV_of w (by simp only [execOp, ho]) (convOp_ok hT w (E x) h)
  | makeInterface xt x =>
    rw [ho] at h
    simp only [evP] at h
    split at h
    · cases h
    · cases h
    · rename_i d hn hd
      cases h
      refine givesV_of w (x := Instr.makeInterface xt (a.eval x)) (by simp only [execOp, ho]) ⟨.iface xt (a.eval x), ?_, .iface _ _ _ (E x)⟩
      cases d <;> first | exact absurd rfl (fun e => hn _ e) | (simp [Instr.makeInterface, run_und hT hd])
  | makeFunc fn first captured =>
    rw [ho] at h
    cases h
    have h1 := evList_rel hg ht first
    have h2 := evList_rel hg ht captured
    exact givesV_of w (x := Instr.makeFunc fn (first.map a.eval) (captured.map a.eval)) (by simp only [execOp, ho]) ⟨_, rfl, .func _ _ _ _ _ h1.len h2.len h1.at_ h2.at_⟩
  | slice xt x lo hi mx =>
    rw [ho] at h
    exact givesV_of w (by simp only [execOp, ho]) (sliceOp_ok hT w (E x) (oRel hg ht lo) (oRel hg ht hi) (oRel hg ht mx) h)
  | fieldAddr s x f =>
    rw [ho] at h
    exact givesV_of w (by simp only [execOp, ho]) (fieldAddrOp_ok hT w (E x) h)
  | field s x f =>
    rw [ho] at h
    exact givesV_of w (by simp only [execOp, ho]) (fieldOp_ok hT w (E x) h)
  | indexAddr xt x i =>
    rw [ho] at h
    exact givesV_of w (by simp only [execOp, ho]) (indexAddrOp_ok hT w (E x) (E i) h)
  | index xt x i =>
    rw [ho] at h
    exact givesV_of w (by simp only [execOp, ho]) (indexOp_ok hT w (E x) (E i) h)
  | typeAssert x xt at_ ok =>
    rw [ho] at h
    exact givesV_of w (by simp only [execOp, ho]) (assertOp_ok hT w (xt := xt) (E x) h)
  | extract x i =>
    rw [ho] at h
    simp only [evP] at h
    split at h
    · rename_i vs hc
      have hx := E x
      rw [hc] at hx
      obtain ⟨vs', e, hvs⟩ := hx.tuple_inv
      obtain ⟨v', e1, hv⟩ := hvs.get h
      have e2 : vs'[i]? = some v' := by rw [← Array.getElem?_toList]; exact e1
      exact givesV_of w (x := Instr.extract (a.eval x) i) (by simp only [execOp, ho]) ⟨v', by simp [Instr.extract, e, e2], hv⟩
    · cases h
  | build u parts =>
    rw [ho] at h
    obtain ⟨p1, p2⟩ := parts_rel (T := T) hg ht parts
    exact givesV_of w (by simp only [execOp, ho]) (buildOp_ok hT w p1 p2 h)
  | call c =>
    rw [ho] at h
    simp only [evP] at h
    split at h
    · rename_i b hb
      obtain ⟨cs, e0⟩ : ∃ cs, execOp a.eval o = builtin b c.argTypes o.type cs (c.args.map a.eval) := ⟨_, by simp only [execOp, ho, resolve, hb]; rfl⟩
      obtain ⟨v', e, hv⟩ := pureBuiltin_ok hT w (ty := o.type) (cs := cs) (evList_rel hg ht c.args) h
      exact ⟨v', by rw [e0]; exact e, hv⟩
    · cases h
  | _ => rw [ho] at h; cases h
end
end Ev
end Go.Proofs.YtjmapihogpdocaaGreatDoor
