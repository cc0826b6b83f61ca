/-
  The evaluator made ready, its registers a tree of records: the same answers, with all that depends on the code alone opened once. (Conditions: none.)
-/
import Derived.Test.YtjmapihogpdocaaGreatDoorEvC
/-! ## EvFast -/
namespace Go.Proofs.YtjmapihogpdocaaGreatDoor
namespace Ev
open Go
noncomputable section

/-! ### Places in trees, made ready -/
inductive Path where
  | here
  | left (p : Path)
  | right (p : Path)

def pathF (f : Nat) : Nat → Path :=
  Nat.rec (motive := fun _ => Nat → Path) (fun _ => .here)
    (fun _ ih n => Nat.rec (motive := fun _ => Path) .here (fun k _ => Bool.rec (motive := fun _ => Path) (.right (ih (Nat.div k 2))) (.left (ih (Nat.div k 2))) (Nat.beq (Nat.mod k 2) 0)) n) f
def pathOf (n : Nat) : Path := pathF (n + 1) n

def Path.force {β : Type} (p : Path) : (Path → β) → β :=
  Path.rec (motive := fun _ => (Path → β) → β) (fun k => k .here) (fun _ ih k => ih fun q => k (.left q)) (fun _ ih k => ih fun q => k (.right q)) p
theorem Path.force_eq {β : Type} (p : Path) : ∀ k : Path → β, p.force k = k p := by
  induction p with
  | here => intro k; rfl
  | left p ih => intro k; exact ih _
  | right p ih => intro k; exact ih _

def Tree.getP {α : Type} (p : Path) : Tree α → Option α :=
  Path.rec (motive := fun _ => Tree α → Option α)
    (fun t => Tree.rec (motive := fun _ => Option α) none (fun _ v _ _ _ => v) t)
    (fun _ ih t => Tree.rec (motive := fun _ => Option α) none (fun l _ _ _ _ => ih l) t)
    (fun _ ih t => Tree.rec (motive := fun _ => Option α) none (fun _ _ r _ _ => ih r) t) p

def Tree.putP {α : Type} (p : Path) : α → Tree α → Tree α :=
  Path.rec (motive := fun _ => α → Tree α → Tree α)
    (fun x t => Tree.rec (motive := fun _ => Tree α) (.node .leaf (some x) .leaf) (fun l _ r _ _ => .node l (some x) r) t)
    (fun _ ih x t => Tree.rec (motive := fun _ => Tree α) (.node (ih x .leaf) none .leaf) (fun l v r _ _ => .node (ih x l) v r) t)
    (fun _ ih x t => Tree.rec (motive := fun _ => Tree α) (.node .leaf none (ih x .leaf)) (fun l v r _ _ => .node l v (ih x r)) t) p

theorem pathF_succ (f k : Nat) : pathF (f + 1) (k + 1) = match Nat.beq (k % 2) 0 with | true => .left (pathF f (k / 2)) | false => .right (pathF f (k / 2)) := by
  show Bool.rec (motive := fun _ => Path) (.right (pathF f (k / 2))) (.left (pathF f (k / 2))) (Nat.beq (k % 2) 0) = _
  cases Nat.beq (k % 2) 0 <;> rfl

theorem getP_pathF {α : Type} : ∀ (f n : Nat) (t : Tree α), n < f → Tree.getP (pathF f n) t = t.get n := by
  intro f
  induction f with
  | zero => intro n t h; omega
  | succ f ih =>
    intro n t h
    cases n with
    | zero => cases t <;> rfl
    | succ k =>
      have hk : k / 2 < f := by omega
      rw [pathF_succ]
      cases t with
      | leaf => cases Nat.beq (k % 2) 0 <;> rfl
      | node l v r =>
        rw [Tree.get_succ]
        cases Nat.beq (k % 2) 0 with
        | true => exact ih (k / 2) l hk
        | false => exact ih (k / 2) r hk

theorem putP_pathF {α : Type} : ∀ (f n : Nat) (x : α) (t : Tree α), n < f → Tree.putP (pathF f n) x t = Tree.setF f t n (some x) := by
  intro f
  induction f with
  | zero => intro n x t h; omega
  | succ f ih =>
    intro n x t h
    cases n with
    | zero => cases t <;> rfl
    | succ k =>
      have hk : k / 2 < f := by omega
      rw [pathF_succ]
      cases t with
      | leaf =>
        rw [Tree.setF_leafS]
        cases Nat.beq (k % 2) 0 with
        | true => exact congrArg (fun q => Tree.node q none .leaf) (ih (k / 2) x .leaf hk)
        | false => exact congrArg (fun q => Tree.node .leaf none q) (ih (k / 2) x .leaf hk)
      | node l v r =>
        rw [Tree.setF_nodeS]
        cases Nat.beq (k % 2) 0 with
        | true => exact congrArg (fun q => Tree.node q v r) (ih (k / 2) x l hk)
        | false => exact congrArg (fun q => Tree.node l v q) (ih (k / 2) x r hk)

theorem getP_of {α : Type} (n : Nat) (t : Tree α) : Tree.getP (pathOf n) t = t.get n := getP_pathF (n + 1) n t (Nat.lt_succ_self n)
theorem putP_of {α : Type} (n : Nat) (x : α) (t : Tree α) : Tree.putP (pathOf n) x t = t.put n x := putP_pathF (n + 1) n x t (Nat.lt_succ_self n)

/-! ### Lists, by their recursors -/
def nthR {α : Type} (l : List α) : Nat → Option α :=
  List.rec (motive := fun _ => Nat → Option α) (fun _ => none) (fun x _ ih n => Nat.rec (motive := fun _ => Option α) (some x) (fun k _ => ih k) n) l
def dropR {α : Type} (l : List α) : Nat → List α :=
  List.rec (motive := fun _ => Nat → List α) (fun _ => []) (fun x tl ih n => Nat.rec (motive := fun _ => List α) (x :: tl) (fun k _ => ih k) n) l
def takeR {α : Type} (l : List α) : Nat → List α :=
  List.rec (motive := fun _ => Nat → List α) (fun _ => []) (fun x _ ih n => Nat.rec (motive := fun _ => List α) [] (fun k _ => x :: ih k) n) l
def setR {α : Type} (v : α) (l : List α) : Nat → List α :=
  List.rec (motive := fun _ => Nat → List α) (fun _ => []) (fun x tl ih n => Nat.rec (motive := fun _ => List α) (v :: tl) (fun k _ => x :: ih k) n) l
def lenR {α : Type} (l : List α) : Nat := List.rec (motive := fun _ => Nat) 0 (fun _ _ ih => Nat.succ ih) l
def geLen {α : Type} (l : List α) : Nat → Bool :=
  List.rec (motive := fun _ => Nat → Bool) (fun n => Nat.rec (motive := fun _ => Bool) true (fun _ _ => false) n) (fun _ _ ih n => Nat.rec (motive := fun _ => Bool) true (fun k _ => ih k) n) l

theorem nthR_eq {α : Type} : ∀ (l : List α) (n : Nat), nthR l n = l[n]? := by
  intro l
  induction l with
  | nil => intro n; rfl
  | cons x tl ih =>
    intro n
    cases n with
    | zero => rfl
    | succ k => exact (ih k).trans (List.getElem?_cons_succ).symm
theorem dropR_eq {α : Type} : ∀ (l : List α) (n : Nat), dropR l n = l.drop n := by
  intro l
  induction l with
  | nil => intro n; exact (List.drop_nil).symm
  | cons x tl ih =>
    intro n
    cases n with
    | zero => rfl
    | succ k => exact ih k
theorem takeR_eq {α : Type} : ∀ (l : List α) (n : Nat), takeR l n = l.take n := by
  intro l
  induction l with
  | nil => intro n; exact (List.take_nil).symm
  | cons x tl ih =>
    intro n
    cases n with
    | zero => rfl
    | succ k => exact congrArg (x :: ·) (ih k)
theorem setR_eq (v : AVal) : ∀ (l : List AVal) (n : Nat), n < l.length → setR v l n = over l n [v] := by
  intro l
  induction l with
  | nil => intro n h; cases h
  | cons x tl ih =>
    intro n h
    cases n with
    | zero => rfl
    | succ k =>
      have h' : k < tl.length := Nat.lt_of_succ_lt_succ h
      exact (congrArg (x :: ·) (ih k h')).trans rfl
theorem lenR_eq {α : Type} : ∀ l : List α, lenR l = l.length := by
  intro l
  induction l with
  | nil => rfl
  | cons x tl ih => exact congrArg Nat.succ ih
theorem geLen_eq {α : Type} : ∀ (l : List α) (n : Nat), geLen l n = Nat.ble n l.length := by
  intro l
  induction l with
  | nil => intro n; cases n <;> rfl
  | cons x tl ih =>
    intro n
    cases n with
    | zero => rfl
    | succ k => exact ih k

/-! Places in a string, one out of the other: what was opened once stays open. -/
def dropT {α : Type} (l : List α) (n : Nat) : List α :=
  Nat.rec (motive := fun _ => List α) l (fun _ ih => List.rec (motive := fun _ => List α) [] (fun _ tl _ => tl) ih) n
def geT {α : Type} (l : List α) (n : Nat) : Bool :=
  Nat.rec (motive := fun _ => Bool) true (fun k _ => List.rec (motive := fun _ => Bool) false (fun _ _ _ => true) (dropT l k)) n
def headT {α : Type} (l : List α) (n : Nat) : Option α :=
  List.rec (motive := fun _ => Option α) none (fun x _ _ => some x) (dropT l n)

theorem dropT_eq {α : Type} (l : List α) : ∀ n : Nat, dropT l n = l.drop n := by
  intro n
  induction n with
  | zero => rfl
  | succ n ih =>
    show List.rec (motive := fun _ => List α) [] (fun _ tl _ => tl) (dropT l n) = _
    rw [ih, ← List.tail_drop]
    cases l.drop n <;> rfl
theorem geT_eq {α : Type} (l : List α) (n : Nat) : geT l n = Nat.ble n l.length := by
  cases n with
  | zero => rfl
  | succ k =>
    show List.rec (motive := fun _ => Bool) false (fun _ _ _ => true) (dropT l k) = _
    rw [dropT_eq]
    cases h : l.drop k with
    | nil =>
      have : l.length ≤ k := List.drop_eq_nil_iff.1 h
      cases hb : Nat.ble (k + 1) l.length with
      | false => rfl
      | true => exact absurd (Nat.le_of_ble_eq_true hb) (by omega)
    | cons x tl =>
      have : k < l.length := by
        rcases Nat.lt_or_ge k l.length with c | c
        · exact c
        · rw [List.drop_eq_nil_of_le c] at h; cases h
      exact (Nat.ble_eq_true_of_le this).symm
theorem headT_eq {α : Type} (l : List α) (n : Nat) : headT l n = l[n]? := by
  unfold headT
  rw [dropT_eq, ← List.head?_drop]
  cases l.drop n <;> rfl

/-! ### Registers as a tree of records -/
structure N3 (R : Type) where
  v : AVal
  l : R
  r : R
def RT (d : Nat) : Type := Nat.rec (motive := fun _ => Type) Unit (fun _ R => N3 R) d
def RT.v {d : Nat} (q : RT (d + 1)) : AVal := N3.v (R := RT d) q
def RT.l {d : Nat} (q : RT (d + 1)) : RT d := N3.l (R := RT d) q
def RT.r {d : Nat} (q : RT (d + 1)) : RT d := N3.r (R := RT d) q

def toT (d : Nat) : RT d → Tree AVal :=
  Nat.rec (motive := fun d => RT d → Tree AVal) (fun _ => .leaf) (fun d ih q => .node (ih (N3.l (R := RT d) q)) (some (N3.v (R := RT d) q)) (ih (N3.r (R := RT d) q))) d
def noneQ (d : Nat) : RT d := Nat.rec (motive := RT) () (fun d ih => (N3.mk .any ih ih : N3 (RT d))) d
def fullT (d : Nat) : Tree AVal := Nat.rec (motive := fun _ => Tree AVal) .leaf (fun _ t => .node t (some .any) t) d
theorem toT_none : ∀ d : Nat, toT d (noneQ d) = fullT d := by
  intro d
  induction d with
  | zero => rfl
  | succ d ih =>
    show Tree.node (toT d (noneQ d)) (some .any) (toT d (noneQ d)) = _
    rw [ih]
    rfl
theorem fullT_get : ∀ (d k : Nat) (v : AVal), (fullT d).get k = some v → v = .any := by
  intro d
  induction d with
  | zero => intro k v h; cases h
  | succ d ih =>
    intro k v h
    have hf : fullT (d + 1) = .node (fullT d) (some .any) (fullT d) := rfl
    rw [hf] at h
    cases k with
    | zero => cases h; rfl
    | succ k =>
      rw [Tree.get_succ] at h
      cases hb : Nat.beq (k % 2) 0 with
      | true => rw [hb] at h; exact ih _ _ h
      | false => rw [hb] at h; exact ih _ _ h

structure BQ (d : Nat) where
  g : RT d → AVal
  p : AVal → RT d → RT d
def boxQ (p : Path) : (d : Nat) → BQ d :=
  Path.rec (motive := fun _ => (d : Nat) → BQ d)
    (fun d => Nat.rec (motive := BQ) ⟨fun _ => .any, fun _ q => q⟩ (fun d _ => ⟨fun q => N3.v (R := RT d) q, fun x q => (N3.mk x (N3.l (R := RT d) q) (N3.r (R := RT d) q) : N3 (RT d))⟩) d)
    (fun _ ih d => Nat.rec (motive := BQ) ⟨fun _ => .any, fun _ q => q⟩ (fun d _ => BQ.rec (motive := fun _ => BQ (d + 1)) (fun g p => ⟨fun q => g (N3.l (R := RT d) q), fun x q => (N3.mk (N3.v (R := RT d) q) (p x (N3.l (R := RT d) q)) (N3.r (R := RT d) q) : N3 (RT d))⟩) (ih d)) d)
    (fun _ ih d => Nat.rec (motive := BQ) ⟨fun _ => .any, fun _ q => q⟩ (fun d _ => BQ.rec (motive := fun _ => BQ (d + 1)) (fun g p => ⟨fun q => g (N3.r (R := RT d) q), fun x q => (N3.mk (N3.v (R := RT d) q) (N3.l (R := RT d) q) (p x (N3.r (R := RT d) q)) : N3 (RT d))⟩) (ih d)) d)
    p

theorem boxQ_g : ∀ (p : Path) (d : Nat) (q : RT d), (boxQ p d).g q = match Tree.getP p (toT d q) with | some v => v | none => .any := by
  intro p
  induction p with
  | here => intro d q; cases d <;> rfl
  | left p ih =>
    intro d q
    cases d with
    | zero => rfl
    | succ d =>
      have h := ih d (RT.l q)
      show (BQ.rec (motive := fun _ => BQ (d + 1)) (fun g p => ⟨fun q => g (N3.l (R := RT d) q), fun x q => (N3.mk (N3.v (R := RT d) q) (p x (N3.l (R := RT d) q)) (N3.r (R := RT d) q) : N3 (RT d))⟩) (boxQ p d) : BQ (d + 1)).g q = _
      cases hb : boxQ p d with
      | mk g pp => rw [hb] at h; exact h
  | right p ih =>
    intro d q
    cases d with
    | zero => rfl
    | succ d =>
      have h := ih d (RT.r q)
      show (BQ.rec (motive := fun _ => BQ (d + 1)) (fun g p => ⟨fun q => g (N3.r (R := RT d) q), fun x q => (N3.mk (N3.v (R := RT d) q) (N3.l (R := RT d) q) (p x (N3.r (R := RT d) q)) : N3 (RT d))⟩) (boxQ p d) : BQ (d + 1)).g q = _
      cases hb : boxQ p d with
      | mk g pp => rw [hb] at h; exact h

/-- How deep a path goes. -/
def Path.size (p : Path) : Nat := Path.rec (motive := fun _ => Nat) 1 (fun _ ih => ih + 1) (fun _ ih => ih + 1) p

theorem boxQ_p : ∀ (p : Path) (d : Nat) (x : AVal) (q : RT d), p.size ≤ d → toT d ((boxQ p d).p x q) = Tree.putP p x (toT d q) := by
  intro p
  induction p with
  | here =>
    intro d x q h
    cases d with
    | zero => cases h
    | succ d => rfl
  | left p ih =>
    intro d x q h
    cases d with
    | zero => cases h
    | succ d =>
      have h := ih d x (RT.l q) (Nat.le_of_succ_le_succ h)
      show toT (d + 1) ((BQ.rec (motive := fun _ => BQ (d + 1)) (fun g p => ⟨fun q => g (N3.l (R := RT d) q), fun x q => (N3.mk (N3.v (R := RT d) q) (p x (N3.l (R := RT d) q)) (N3.r (R := RT d) q) : N3 (RT d))⟩) (boxQ p d) : BQ (d + 1)).p x q) = _
      cases hb : boxQ p d with
      | mk g pp =>
        rw [hb] at h
        exact congrArg (fun z => Tree.node z (some (RT.v q)) (toT d (RT.r q))) h
  | right p ih =>
    intro d x q h
    cases d with
    | zero => cases h
    | succ d =>
      have h := ih d x (RT.r q) (Nat.le_of_succ_le_succ h)
      show toT (d + 1) ((BQ.rec (motive := fun _ => BQ (d + 1)) (fun g p => ⟨fun q => g (N3.r (R := RT d) q), fun x q => (N3.mk (N3.v (R := RT d) q) (N3.l (R := RT d) q) (p x (N3.r (R := RT d) q)) : N3 (RT d))⟩) (boxQ p d) : BQ (d + 1)).p x q) = _
      cases hb : boxQ p d with
      | mk g pp =>
        rw [hb] at h
        exact congrArg (fun z => Tree.node (toT d (RT.l q)) (some (RT.v q)) z) h

theorem pathF_size : ∀ (d f k : Nat), k < f → k + 1 < 2 ^ d → (pathF f k).size ≤ d := by
  intro d
  induction d with
  | zero => intro f k _ h; simp at h
  | succ d ih =>
    intro f k hf h
    cases f with
    | zero => cases hf
    | succ f =>
      cases k with
      | zero => exact Nat.succ_le_succ (Nat.zero_le d)
      | succ k =>
        have h1 : k / 2 < f := by omega
        have h2 : k / 2 + 1 < 2 ^ d := by rw [Nat.pow_succ] at h; omega
        have h3 := ih f (k / 2) h1 h2
        rw [pathF_succ]
        cases Nat.beq (k % 2) 0 with
        | true => exact Nat.succ_le_succ h3
        | false => exact Nat.succ_le_succ h3
theorem pathOf_size {k : Nat} (h : k < 4000) : (pathOf k).size ≤ 12 := pathF_size 12 (k + 1) k (Nat.lt_succ_self k) (by omega)

abbrev Q : Type := RT 12
def toQ (q : Q) : Tree AVal := toT 12 q

/-! ### Boxes -/
structure BE where
  f : Q → AVal
structure BL where
  f : Q → List AVal
structure BP where
  f : Q → Option AVal
structure BR where
  f : Q → (Nat → Option ABlk) → Option AVal
structure BW where
  f : Q → AMem → Res
structure BO where
  f : Q → AMem → Out AVal
structure BT where
  f : Q → AMem → Out (Q)
structure BC where
  f : Q → AMem → Out (Ex × Q)
structure BF where
  f : List AVal → AMem → Out AVal

def cE (T : Tab) (x : Operand) : BE :=
  match x with
  | .tmp i => BQ.rec (motive := fun _ => BE) (fun g _ => ⟨g⟩) (boxQ (pathOf i) 12)
  | .const v => ⟨fun _ => absV v⟩
  | .global g => match T.glob g with
    | true => ⟨fun _ => .ptr g 0⟩
    | false => ⟨fun _ => .any⟩
  | .func f => ⟨fun _ => .func (.func f) [] []⟩

theorem cE_eq (T : Tab) (x : Operand) (t : Q) : (cE T x).f t = ev T (toQ t) x := by
  cases x with
  | tmp i =>
    have h := boxQ_g (pathOf i) 12 t
    rw [getP_of] at h
    simp only [cE, ev, toQ]
    cases hb : boxQ (pathOf i) 12 with
    | mk g p => rw [hb] at h; exact h
  | const v => rfl
  | global g => simp only [cE, ev]; cases T.glob g <;> rfl
  | func f => rfl

def cL (T : Tab) : List Operand → BL
  | [] => ⟨fun _ => []⟩
  | x :: r => ⟨fun t => (cE T x).f t :: (cL T r).f t⟩
theorem cL_eq (T : Tab) (t : Q) : ∀ l : List Operand, (cL T l).f t = l.map (ev T (toQ t)) := by
  intro l
  induction l with
  | nil => rfl
  | cons x r ih => simp only [cL, cE_eq, ih, List.map_cons]
theorem cL_list (T : Tab) (t : Q) (xs : Array Operand) : (cL T xs.toList).f t = evList T (toQ t) xs := cL_eq T t xs.toList

/-- A string's part. -/
def cutS (s : List UInt8) (lo : Option AVal) (hi : Option AVal) : Option AVal :=
  match hi with
  | none => match lo with
    | some (.int _ (.ofNat l)) => match geT s l with
      | true => some (.str (dropT s l))
      | false => none
    | some _ => none
    | none => some (.str s)
  | some (.int _ (.ofNat h)) => match geT s h with
    | true => match lo with
      | some (.int _ (.ofNat l)) => match Nat.ble l h with
        | true => some (.str (takeR (dropT s l) (h - l)))
        | false => none
      | some _ => none
      | none => some (.str (takeR s h))
    | false => none
  | some _ => none

theorem cutS_eq {T : Tab} {u : TypeId} (h : T.und u = some .string) (s : List UInt8) (lo hi : Option AVal) : cutS s lo hi = sliceOp T u (.str s) lo hi none := by
  unfold sliceOp
  rw [h]
  simp only [cutS, bounds2, boundOr]
  cases hi with
  | none =>
    cases lo with
    | none => simp
    | some x =>
      simp only [bound]
      cases x with
      | int k i => cases i with
        | ofNat l =>
          simp only [geT_eq]
          cases Nat.ble l s.length with
          | true => simp [dropT_eq]
          | false => rfl
        | negSucc l => rfl
      | _ => rfl
  | some y =>
    simp only [bound]
    cases y with
    | int k i => cases i with
      | ofNat n =>
        simp only [geT_eq]
        cases Nat.ble n s.length with
        | true =>
          cases lo with
          | none => simp [takeR_eq]
          | some x =>
            simp only
            cases x with
            | int k i => cases i with
              | ofNat l =>
                simp only
                cases Nat.ble l n with
                | true => simp [takeR_eq, dropT_eq, List.drop_take]
                | false => rfl
              | negSucc l => rfl
            | _ => rfl
        | false => rfl
      | negSucc l => rfl
    | _ => rfl

/-- A string's byte. -/
def byteS (s : List UInt8) (i : Int) : Option AVal :=
  match i with
  | .ofNat n => match headT s n with
    | some b => some (.int .u8 (.ofNat b.toNat))
    | none => none
  | .negSucc _ => none

def isStr (T : Tab) (u : TypeId) : Bool :=
  match T.und u with
  | some .string => true
  | _ => false
theorem isStr_spec {T : Tab} {u : TypeId} (h : isStr T u = true) : T.und u = some .string := by
  unfold isStr at h
  split at h
  · assumption
  · cases h

theorem byteS_eq {T : Tab} {u : TypeId} (h : T.und u = some .string) (s : List UInt8) (k : IntKind) (i : Int) : byteS s i = indexOp T u (.str s) (.int k i) := by
  unfold indexOp
  rw [h]
  simp only
  cases i with
  | ofNat n =>
    rw [if_pos (show (0 : Int) ≤ Int.ofNat n from Int.natCast_nonneg n)]
    simp only [byteS, headT_eq]
    rfl
  | negSucc n => rw [if_neg (by omega)]; rfl

/-- The place of a field. -/
def fieldAt (T : Tab) (s : TypeId) (f : Nat) : Option Nat :=
  match T.und s with
  | some (.struct fs) => match fs[f]? with
    | some fd => match T.size fd.type with
      | some (_ + 1) => some fd.offset
      | _ => none
    | none => none
  | _ => none
theorem fieldAt_eq (T : Tab) (s : TypeId) (f : Nat) (x : AVal) : fieldAddrOp T s x f = match fieldAt T s f, x with
    | some n, .ptr b o => some (.ptr b (o + n))
    | _, _ => none := by
  unfold fieldAddrOp fieldAt
  cases T.und s with
  | none => cases x <;> rfl
  | some d =>
    cases d with
    | struct fs =>
      cases x with
      | ptr b o =>
        simp only
        cases fs[f]? with
        | none => rfl
        | some fd =>
          simp only
          cases T.size fd.type with
          | none => rfl
          | some n => cases n <;> rfl
      | _ =>
        simp only
        cases fs[f]? with
        | none => rfl
        | some fd =>
          simp only
          cases T.size fd.type with
          | none => rfl
          | some n => cases n <;> rfl
    | _ => cases x <;> rfl

def cP (T : Tab) (o : Op) : BP :=
  match o with
  | .move x => ⟨fun t => some ((cE T x).f t)⟩
  | .assign x => ⟨fun t => some ((cE T x).f t)⟩
  | .binOp op xt x y _ => ⟨fun t => binop T op xt x y ((cE T x).f t) ((cE T y).f t)⟩
  | .unOp op _ x => ⟨fun t => unop op ((cE T x).f t)⟩
  | .convert a b x => ⟨fun t => convOp T a b ((cE T x).f t)⟩
  | .fieldAddr s x f => match fieldAt T s f with
    | some n => ⟨fun t => match (cE T x).f t with
      | .ptr b o => some (.ptr b (o + n))
      | _ => none⟩
    | none => ⟨fun _ => none⟩
  | .field s x f => ⟨fun t => fieldOp T s ((cE T x).f t) f⟩
  | .indexAddr xt x i => ⟨fun t => indexAddrOp T xt ((cE T x).f t) ((cE T i).f t)⟩
  | .index xt x i => match isStr T xt with
    | true => ⟨fun t => match (cE T x).f t, (cE T i).f t with
      | .str s, .int _ n => byteS s n
      | a, b => indexOp T xt a b⟩
    | false => ⟨fun t => indexOp T xt ((cE T x).f t) ((cE T i).f t)⟩
  | .slice xt x lo hi none => match isStr T xt with
    | true => ⟨fun t => match (cE T x).f t with
      | .str s => cutS s (lo.map (cE T · |>.f t)) (hi.map (cE T · |>.f t))
      | a => sliceOp T xt a (lo.map (ev T (toQ t))) (hi.map (ev T (toQ t))) none⟩
    | false => ⟨fun t => sliceOp T xt ((cE T x).f t) (lo.map (cE T · |>.f t)) (hi.map (cE T · |>.f t)) none⟩
  | .extract x i => ⟨fun t => match (cE T x).f t with | .tuple vs => nthR vs i | _ => none⟩
  | o => ⟨fun t => evP T (toQ t) o⟩

theorem cE_map (T : Tab) (t : Q) (o : Option Operand) : o.map (cE T · |>.f t) = o.map (ev T (toQ t)) := by
  cases o with
  | none => rfl
  | some x => exact congrArg some (cE_eq T x t)

theorem cP_eq (T : Tab) (o : Op) (t : Q) : (cP T o).f t = evP T (toQ t) o := by
  cases o with
  | extract x i => simp only [cP, evP, cE_eq]; cases ev T (toQ t) x <;> simp only [nthR_eq]
  | fieldAddr s x f =>
    simp only [cP, evP, fieldAt_eq]
    cases fieldAt T s f with
    | none => rfl
    | some n => simp only [cE_eq]; cases ev T (toQ t) x <;> rfl
  | index xt x i =>
    simp only [cP, evP]
    cases h : isStr T xt with
    | false => simp only [cE_eq]
    | true =>
      simp only [cE_eq]
      split
      · rename_i s k n h1 h2
        rw [h1, h2]
        exact byteS_eq (isStr_spec h) s k n
      · rfl
  | slice xt x lo hi mx =>
    cases mx with
    | some m => rfl
    | none =>
      simp only [cP, evP]
      cases h : isStr T xt with
      | false => simp only [cE_eq]; rfl
      | true =>
        simp only [cE_eq]
        split
        · rename_i s h1
          rw [h1]
          exact cutS_eq (isStr_spec h) s _ _
        · rfl
  | _ => simp only [cP, evP, cE_eq]

/-- A value of one cell. -/
def oneAt (T : Tab) (u : TypeId) : Bool :=
  match T.isAgg u with
  | some false => true
  | _ => false
theorem oneAt_spec {T : Tab} {u : TypeId} (h : oneAt T u = true) : T.isAgg u = some false := by
  unfold oneAt at h
  split at h
  · assumption
  · cases h

def cR (T : Tab) (o : Op) : BR :=
  match o with
  | .load u x => match oneAt T u with
    | true => ⟨fun t g => match (cE T x).f t with
      | .ptr b o => match g b with
        | some (.cells _ vs _ _ _) => nthR vs o
        | _ => none
      | _ => none⟩
    | false => ⟨fun t g => loadOp T g u ((cE T x).f t)⟩
  | o => ⟨fun t g => evR T (toQ t) g o⟩

theorem cR_eq (T : Tab) (o : Op) (t : Q) (g : Nat → Option ABlk) : (cR T o).f t g = evR T (toQ t) g o := by
  cases o with
  | load u x =>
    simp only [cR, evR]
    cases h : oneAt T u with
    | false => simp only [cE_eq]
    | true =>
      simp only [cE_eq, loadOp, oneAt_spec h, nthR_eq]
      cases ev T (toQ t) x <;> rfl
  | _ => rfl

/-- Storing a value of one cell. -/
def storeOne (m : AMem) (x v : AVal) : Res :=
  match x with
  | .ptr b o => match m.get b with
    | some (.cells e vs false frz wh) => match Nat.ble frz o with
      | true => match geLen vs (o + 1) with
        | true => .val .any (m.set b (.cells e (setR v vs o) false frz wh))
        | false => .fail
      | false => .fail
    | _ => .fail
  | _ => .fail

def sizeOne (T : Tab) (u : TypeId) : Bool :=
  match T.size u with
  | some 1 => true
  | _ => false
theorem sizeOne_spec {T : Tab} {u : TypeId} (h : sizeOne T u = true) : T.size u = some 1 := by
  unfold sizeOne at h
  split at h
  · assumption
  · cases h

theorem storeOne_eq {T : Tab} {u : TypeId} (h : T.size u = some 1) (m : AMem) (x v : AVal) (hv : v.one = true) : storeOne m x v = storeOp T m u x v := by
  have hc : v.cells = [v] := by cases v <;> first | rfl | cases hv
  unfold storeOne storeOp
  cases x with
  | ptr b o =>
    have key : (match T.size u, m.get b with
      | some n, some (.cells e vs false frz wh) =>
        match Nat.beq v.cells.length n && v.cells.all AVal.one && Nat.ble frz o && Nat.ble (o + n) vs.length with
        | true => Res.val .any (m.set b (.cells e (over vs o v.cells) false frz wh))
        | false => .fail
      | _, _ => .fail) = (match m.get b with
      | some (.cells e vs false frz wh) => match Nat.ble frz o with
        | true => match geLen vs (o + 1) with
          | true => .val .any (m.set b (.cells e (setR v vs o) false frz wh))
          | false => .fail
        | false => .fail
      | _ => .fail) := by
      rw [h, hc]
      cases m.get b with
      | none => rfl
      | some k => cases k with
        | cells e vs ro frz wh => cases ro with
          | true => rfl
          | false =>
            simp only [List.all_cons, hv, List.all_nil, geLen_eq, List.length_cons, List.length_nil]
            cases Nat.ble frz o with
            | false => rfl
            | true =>
              cases hb : Nat.ble (o + 1) vs.length with
              | false => simp
              | true => simp [setR_eq v vs o (Nat.le_of_ble_eq_true hb)]
        | map es bs ck => rfl
        | iter s p => rfl
        | miter mm a b c => rfl
        | chan c bf => rfl
    refine key.symm.trans ?_
    cases v <;> first | rfl | cases hv
  | _ => rfl

def cW (T : Tab) (o : Op) : BW :=
  match o with
  | .store u a x => match sizeOne T u with
    | true => ⟨fun t m => match ((cE T x).f t).one with
      | true => storeOne m ((cE T a).f t) ((cE T x).f t)
      | false => storeOp T m u ((cE T a).f t) ((cE T x).f t)⟩
    | false => ⟨fun t m => storeOp T m u ((cE T a).f t) ((cE T x).f t)⟩
  | o => ⟨fun t m => evW T (toQ t) m o⟩

theorem cW_eq (T : Tab) (o : Op) (t : Q) (m : AMem) : (cW T o).f t m = evW T (toQ t) m o := by
  cases o with
  | store u a x =>
    simp only [cW, evW]
    cases h : sizeOne T u with
    | false => simp only [cE_eq]
    | true =>
      simp only [cE_eq]
      cases hv : (ev T (toQ t) x).one with
      | true => exact storeOne_eq (sizeOne_spec h) m _ _ hv
      | false => rfl
  | _ => rfl

/-- A direct call of a function. -/
def callOf (o : Op) : Option (FuncId × Array Operand) :=
  match o with
  | .call c => match c.callee with
    | .value x => match x with
      | .func g => some (g, c.args)
      | _ => none
    | _ => none
  | _ => none

/-- The length of a string. -/
def lenOf (T : Tab) (o : Op) : Option Operand :=
  match o with
  | .call c => match c.callee with
    | .builtin .len => match c.args.toList, c.argTypes[0]? with
      | x :: _, some u => match isStr T u with
        | true => some x
        | false => none
      | _, _ => none
    | _ => none
  | _ => none

def cOp (T : Tab) (callF : FuncId → List AVal → AMem → Out AVal) (o : Op) : BO :=
  match callOf o with
  | some (g, args) => ⟨fun t m => callF g ((cL T args.toList).f t) m⟩
  | none => match kindOf T o with
    | .p => match lenOf T o with
      | some x => ⟨fun t m => match (cE T x).f t with
        | .str s => .ok (.int .i64 (.ofNat (lenR s))) m
        | _ => match evP T (toQ t) o with | some v => .ok v m | none => .fail ""⟩
      | none => ⟨fun t m => Option.rec (motive := fun _ => Out AVal) (.fail "") (fun v => .ok v m) ((cP T o).f t)⟩
    | .r => ⟨fun t m => Option.rec (motive := fun _ => Out AVal) (.fail "") (fun v => .ok v m) ((cR T o).f t m.get)⟩
    | .a => ⟨fun t m => match evA T (toQ t) m.next o with | some (v, k) => .ok v (m.new k) | none => .fail ""⟩
    | .w => ⟨fun t m => match (cW T o).f t m with
      | .val v m' => .ok v m'
      | .call f args => callF f args m
      | .pan v => .pan v m
      | .fail => .fail ""⟩

theorem callOf_spec {o : Op} {g : FuncId} {args : Array Operand} (h : callOf o = some (g, args)) : ∃ ts, o = .call ⟨.value (.func g), args, ts⟩ := by
  unfold callOf at h
  split at h
  · rename_i c
    obtain ⟨callee, as, ts⟩ := c
    split at h
    · rename_i x hc
      simp only at hc
      subst hc
      split at h
      · cases h; exact ⟨ts, rfl⟩
      · cases h
    · cases h
  · cases h

theorem lenOf_spec {T : Tab} {o : Op} {x : Operand} (h : lenOf T o = some x) (t : Tree AVal) {s : List UInt8} (hs : ev T t x = .str s) : evP T t o = some (.int .i64 (.ofNat (lenR s))) := by
  unfold lenOf at h
  split at h
  · rename_i c
    split at h
    · rename_i hc
      split at h
      · rename_i y rest u h1 h2
        split at h
        · rename_i hu
          cases h
          simp only [evP, hc, evList, h1, List.map_cons, hs, pureBuiltin, h2, lenOp, isStr_spec hu, lenR_eq]
          rfl
        · cases h
      · cases h
    · cases h
  · cases h

theorem cOp_eq (T : Tab) (callF : FuncId → List AVal → AMem → Out AVal) (o : Op) (t : Q) (m : AMem) : (cOp T callF o).f t m = evOne T callF (toQ t) m o := by
  unfold cOp
  cases hc : callOf o with
  | some x =>
    obtain ⟨g, args⟩ := x
    obtain ⟨ts, rfl⟩ := callOf_spec hc
    simp only [evOne, kindOf, evW, ev, List.nil_append, List.append_nil, cL_list]
  | none =>
    simp only
    unfold evOne
    cases kindOf T o with
    | p =>
      simp only
      cases hl : lenOf T o with
      | none => simp only [cP_eq]; cases evP T (toQ t) o <;> rfl
      | some x =>
        simp only [cE_eq]
        split
        · rename_i s hs
          rw [lenOf_spec hl (toQ t) hs]
        · rfl
    | r => simp only [cR_eq]; cases evR T (toQ t) m.get o <;> rfl
    | a => rfl
    | w => simp only [cW_eq]; cases evW T (toQ t) m o <;> rfl

def posOr (pos w : String) : String :=
  match w with
  | "" => pos
  | w => w

theorem posOr_fail {pos w : String} {A : AVal → AMem → Out (Tree AVal)} : (Out.fail (posOr pos w) : Out (Tree AVal)) = match (Out.fail w : Out AVal) with
    | .ok v m' => A v m'
    | .pan v m' => .pan v m'
    | .fail "" => .fail pos
    | .fail w => .fail w := by
  by_cases h : w = ""
  · subst h; rfl
  · simp [posOr]

/-- An answer over records, as one over trees. -/
def mapO : Out Q → Out (Tree AVal)
  | .ok q m => .ok (toQ q) m
  | .pan v m => .pan v m
  | .fail w => .fail w

theorem put_ok {n d : Nat} (hn : n ≤ 4000) (hd : Nat.blt d n = true) (v : AVal) (q : Q) : toQ ((boxQ (pathOf d) 12).p v q) = (toQ q).put d v := by
  have h1 : d < n := Nat.le_of_ble_eq_true hd
  exact (boxQ_p (pathOf d) 12 v q (pathOf_size (by omega))).trans (putP_of d v _)

/-- An operation, its place, and what follows. -/
def cStep (n : Nat) (op : BO) (d : Option Nat) (pos : String) (next : BT) : BT :=
  match d with
  | none => ⟨fun t m => Out.rec (motive := fun _ => Out Q) (fun _ m' => next.f t m') (fun v m' => .pan v m') (fun w => .fail (posOr pos w)) (op.f t m)⟩
  | some d => match Nat.blt d n with
    | true => BQ.rec (motive := fun _ => BT) (fun _ p => ⟨fun t m => Out.rec (motive := fun _ => Out Q) (fun v m' => next.f (p v t) m') (fun v m' => .pan v m') (fun w => .fail (posOr pos w)) (op.f t m)⟩) (boxQ (pathOf d) 12)
    | false => ⟨fun t m => Out.rec (motive := fun _ => Out Q) (fun _ _ => .fail pos) (fun v m' => .pan v m') (fun w => .fail (posOr pos w)) (op.f t m)⟩

structure BU where
  f : AVal → Q → Option Q
def cPut (n : Nat) (d : Option Nat) : BU :=
  match d with
  | none => ⟨fun _ t => some t⟩
  | some d => match Nat.blt d n with
    | true => BQ.rec (motive := fun _ => BU) (fun _ p => ⟨fun v t => some (p v t)⟩) (boxQ (pathOf d) 12)
    | false => ⟨fun _ _ => none⟩
theorem cPut_eq {n : Nat} (hn : n ≤ 4000) (d : Option Nat) (v : AVal) (t : Q) : putDst n (toQ t) d v = match (cPut n d).f v t with | some t' => some (toQ t') | none => none := by
  unfold cPut putDst
  cases d with
  | none => rfl
  | some d =>
    simp only
    cases hd : Nat.blt d n with
    | true =>
      have h := put_ok hn hd v t
      simp only
      cases hb : boxQ (pathOf d) 12 with
      | mk g p => rw [hb] at h; exact congrArg some h.symm
    | false => rfl

def cOps (T : Tab) (callF : FuncId → List AVal → AMem → Out AVal) (n : Nat) (all : Array Oper) : List Oper → BT
  | [] => ⟨fun t m => .ok t m⟩
  | o :: rest => match o.guard with
    | none => cStep n (cOp T callF o.op) o.dst o.pos (cOps T callF n all rest)
    | some _ => ⟨fun t m => match wantedOp all (toQ t) o with
      | none => .fail o.pos
      | some false => match (cPut n o.dst).f (.tuple []) t with
        | some t' => (cOps T callF n all rest).f t' m
        | none => .fail o.pos
      | some true => (cStep n (cOp T callF o.op) o.dst o.pos (cOps T callF n all rest)).f t m⟩

theorem cStep_eq {T : Tab} {callF : FuncId → List AVal → AMem → Out AVal} {n : Nat} (hn : n ≤ 4000) {all : Array Oper} {o : Oper} {rest : List Oper} (ih : ∀ t m, mapO ((cOps T callF n all rest).f t m) = evOps T callF n all rest (toQ t) m) (t : Q) (m : AMem) :
    mapO ((cStep n (cOp T callF o.op) o.dst o.pos (cOps T callF n all rest)).f t m) = match evOne T callF (toQ t) m o.op with
      | .ok v m' => match putDst n (toQ t) o.dst v with
        | some t' => evOps T callF n all rest t' m'
        | none => .fail o.pos
      | .pan v m' => .pan v m'
      | .fail "" => .fail o.pos
      | .fail w => .fail w := by
  unfold cStep putDst
  cases o.dst with
  | none =>
    simp only [cOp_eq]
    cases evOne T callF (toQ t) m o.op with
    | ok v m' => exact ih t m'
    | pan v m' => rfl
    | fail w => exact posOr_fail
  | some d =>
    simp only
    cases hd : Nat.blt d n with
    | true =>
      have hp := fun v => put_ok hn hd v t
      cases hb : boxQ (pathOf d) 12 with
      | mk g p =>
        rw [hb] at hp
        simp only [cOp_eq]
        cases evOne T callF (toQ t) m o.op with
        | ok v m' =>
          have h := ih (p v t) m'
          rw [show toQ (p v t) = (toQ t).put d v from hp v] at h
          exact h
        | pan v m' => rfl
        | fail w => exact posOr_fail
    | false =>
      simp only [cOp_eq]
      cases evOne T callF (toQ t) m o.op with
      | ok v m' => rfl
      | pan v m' => rfl
      | fail w => exact posOr_fail

theorem cOps_eq (T : Tab) (callF : FuncId → List AVal → AMem → Out AVal) {n : Nat} (hn : n ≤ 4000) (all : Array Oper) : ∀ (l : List Oper) (t : Q) (m : AMem), mapO ((cOps T callF n all l).f t m) = evOps T callF n all l (toQ t) m := by
  intro l
  induction l with
  | nil => intro t m; rfl
  | cons o rest ih =>
    intro t m
    simp only [cOps, evOps]
    cases hg : o.guard with
    | none =>
      have hw : wantedOp all (toQ t) o = some true := by simp [wantedOp, hg]
      simp only [hw]
      exact cStep_eq hn ih t m
    | some g =>
      simp only
      cases wantedOp all (toQ t) o with
      | none => rfl
      | some b => cases b with
        | false =>
          simp only [cPut_eq hn]
          cases (cPut n o.dst).f (.tuple []) t with
          | none => rfl
          | some t' => exact ih t' m
        | true => exact cStep_eq hn ih t m

/-! ### Drawn regions -/
structure BD where
  f : Nat → Q → List (Nat × ABlk) → AMem → Nat → Nat → List Stage → List Rd → Option (Nat × AVal × AMem) → Out (Q)
def BD.g (b : BD) (base : Nat) (t : Q) (ds : DS) : Out Q := b.f base t ds.made ds.st.m ds.st.abs ds.st.wm ds.old ds.reads ds.pan

def cWant (T : Tab) (callF : FuncId → List AVal → AMem → Out AVal) (n p i : Nat) (o : Oper) (next : BD) : BD :=
  match kindOf T o.op with
  | .p => ⟨fun base t made m abs wm old reads pan => match (cP T o.op).f t with
    | none => .fail o.pos
    | some v => match (cPut n o.dst).f v t with
      | none => .fail o.pos
      | some t' => next.f base t' made m abs wm old reads pan⟩
  | .r => ⟨fun base t made m abs wm old reads pan => match (cR T o.op).f t (view base m (Nat.testBit (diff p abs)) made).get with
    | none => .fail o.pos
    | some v => match (cPut n o.dst).f v t with
      | none => .fail o.pos
      | some t' => next.f base t' made m abs wm old (⟨i, p, o.op, toQ t, v, old.length⟩ :: reads) pan⟩
  | .a => ⟨fun base t made m abs wm old reads pan => match evA T (toQ t) (base + i) o.op with
    | none => .fail o.pos
    | some (v, b) => match (cPut n o.dst).f v t with
      | none => .fail o.pos
      | some t' => next.f base t' ((i, b) :: made) m abs wm old reads pan⟩
  | .w => ⟨fun base t made m abs wm old reads pan => match pan with
    | some _ => .fail o.pos
    | none => match Nat.beq (Nat.land p wm) wm with
      | false => .fail o.pos
      | true => match (cOp T callF o.op).f t (view base m (Nat.testBit (diff p abs)) made) with
        | .ok v m' => match (cPut n o.dst).f v t with
          | none => .fail o.pos
          | some t' => next.f base t' made m' (Nat.lor p abs) (Nat.lor (2 ^ i) wm) (⟨m, abs, wm⟩ :: old) reads none
        | .pan v m' => next.f base t made m abs wm old reads (some (i, v, m'))
        | .fail "" => .fail o.pos
        | .fail w => .fail w⟩

/-- What follows a drawn operation: the answers agree. -/
def BD.same (next : BD) (base : Nat) (out : Out Q) : Except String DS → Prop
  | .ok ds => ∃ t, ds.t = toQ t ∧ out = next.g base t ds
  | .error w => out = .fail w

theorem cWant_eq (T : Tab) (callF : FuncId → List AVal → AMem → Out AVal) {n : Nat} (hn : n ≤ 4000) (base p i : Nat) (o : Oper) (next : BD) (t : Q) (ds : DS) (ht : ds.t = toQ t) : next.same base ((cWant T callF n p i o next).g base t ds) (drawWant T callF n base p i o ds) := by
  obtain ⟨t0, made, ⟨m, abs, wm⟩, old, reads, pan⟩ := ds
  simp only at ht
  subst ht
  unfold cWant drawWant
  cases kindOf T o.op with
  | p =>
    simp only [BD.g, cP_eq, cPut_eq hn]
    cases evP T (toQ t) o.op with
    | none => rfl
    | some v => simp only; cases (cPut n o.dst).f v t with | none => rfl | some t' => exact ⟨t', rfl, rfl⟩
  | r =>
    simp only [BD.g, cR_eq, cPut_eq hn]
    cases evR T (toQ t) (view base m (Nat.testBit (diff p abs)) made).get o.op with
    | none => rfl
    | some v => simp only; cases (cPut n o.dst).f v t with | none => rfl | some t' => exact ⟨t', rfl, rfl⟩
  | a =>
    simp only [BD.g, cPut_eq hn]
    cases evA T (toQ t) (base + i) o.op with
    | none => rfl
    | some x => obtain ⟨v, b⟩ := x; simp only; cases (cPut n o.dst).f v t with | none => rfl | some t' => exact ⟨t', rfl, rfl⟩
  | w =>
    simp only [BD.g, cOp_eq, cPut_eq hn]
    cases pan with
    | some x => rfl
    | none =>
      simp only
      cases Nat.beq (Nat.land p wm) wm with
      | false => rfl
      | true =>
        simp only
        cases evOne T callF (toQ t) (view base m (Nat.testBit (diff p abs)) made) o.op with
        | ok v m' => simp only; cases (cPut n o.dst).f v t with | none => rfl | some t' => exact ⟨t', rfl, rfl⟩
        | pan v m' => exact ⟨t, rfl, rfl⟩
        | fail w =>
          by_cases h : w = ""
          · subst h; rfl
          · simp only [BD.same]

def cDStep (T : Tab) (callF : FuncId → List AVal → AMem → Out AVal) (n : Nat) (all : Array Oper) (pre who : Tree Nat) (i : Nat) (o : Oper) (next : BD) : BD :=
  match pre.get i with
  | none => ⟨fun _ _ _ _ _ _ _ _ _ => .fail o.pos⟩
  | some p => match looksOk pre who i p (o.looksAt all) with
    | false => ⟨fun _ _ _ _ _ _ _ _ _ => .fail o.pos⟩
    | true => match o.guard with
      | none => ⟨fun base t made m abs wm old reads pan => match deadBy pan p with
        | true => next.f base t made m abs wm old reads pan
        | false => (cWant T callF n p i o next).f base t made m abs wm old reads pan⟩
      | some _ => ⟨fun base t made m abs wm old reads pan => match deadBy pan p with
        | true => next.f base t made m abs wm old reads pan
        | false => match wantedOp all (toQ t) o with
          | none => .fail o.pos
          | some false => match (cPut n o.dst).f (.tuple []) t with
            | none => .fail o.pos
            | some t' => next.f base t' made m abs wm old reads pan
          | some true => (cWant T callF n p i o next).f base t made m abs wm old reads pan⟩

theorem cDStep_eq (T : Tab) (callF : FuncId → List AVal → AMem → Out AVal) {n : Nat} (hn : n ≤ 4000) (all : Array Oper) (base : Nat) (pre who : Tree Nat) (i : Nat) (o : Oper) (next : BD) (t : Q) (ds : DS) (ht : ds.t = toQ t) : next.same base ((cDStep T callF n all pre who i o next).g base t ds) (drawStep T callF n all base pre who i o ds) := by
  unfold cDStep drawStep
  cases pre.get i with
  | none => rfl
  | some p =>
    simp only
    cases looksOk pre who i p (o.looksAt all) with
    | false => rfl
    | true =>
      simp only
      have hw := cWant_eq T callF hn base p i o next t ds ht
      cases hg : o.guard with
      | none =>
        have h1 : wantedOp all ds.t o = some true := by simp [wantedOp, hg]
        simp only [h1, BD.g]
        cases deadBy ds.pan p with
        | true => exact ⟨t, ht, rfl⟩
        | false => exact hw
      | some g =>
        simp only [BD.g]
        cases deadBy ds.pan p with
        | true => exact ⟨t, ht, rfl⟩
        | false =>
          simp only [ht]
          cases wantedOp all (toQ t) o with
          | none => rfl
          | some b => cases b with
            | false => simp only [cPut_eq hn]; cases (cPut n o.dst).f (.tuple []) t with | none => rfl | some t' => exact ⟨t', rfl, rfl⟩
            | true => exact hw

def cDOps (T : Tab) (callF : FuncId → List AVal → AMem → Out AVal) (n : Nat) (all : Array Oper) (pre who : Tree Nat) (last : BD) : List Oper → Nat → BD
  | [], _ => last
  | o :: rest, i => cDStep T callF n all pre who i o (cDOps T callF n all pre who last rest (i + 1))

theorem cDOps_eq (T : Tab) (callF : FuncId → List AVal → AMem → Out AVal) {n : Nat} (hn : n ≤ 4000) (all : Array Oper) (base : Nat) (pre who : Tree Nat) (last : BD) : ∀ (l : List Oper) (i : Nat) (t : Q) (ds : DS), ds.t = toQ t → last.same base ((cDOps T callF n all pre who last l i).g base t ds) (drawOps T callF n all base pre who l i ds) := by
  intro l
  induction l with
  | nil => intro i t ds ht; exact ⟨t, ht, rfl⟩
  | cons o rest ih =>
    intro i t ds ht
    have h := cDStep_eq T callF hn all base pre who i o (cDOps T callF n all pre who last rest (i + 1)) t ds ht
    simp only [cDOps, drawOps]
    cases hd : drawStep T callF n all base pre who i o ds with
    | ok ds' =>
      rw [hd] at h
      obtain ⟨t', h1, h2⟩ := h
      rw [h2]
      exact ih (i + 1) t' ds' h1
    | error w => rw [hd] at h; exact h

def cLast (T : Tab) (size : Nat) : BD :=
  ⟨fun base t made m abs wm old reads pan => match stagesOk T base made wm reads (⟨m, abs, wm⟩ :: old) with
    | false => .fail "read"
    | true => match pan with
      | some (_, v, m') => .pan v m'
      | none => .ok t (view base m (Nat.testBit (diff (2 ^ size - 1) abs)) made)⟩

def cDraw (T : Tab) (callF : FuncId → List AVal → AMem → Out AVal) (n : Nat) (ops : Array Oper) : BT :=
  match masks ops.toList 0 .leaf, whoOf ops.toList 0 .leaf with
  | some pre, some who => ⟨fun t m => (cDOps T callF n ops pre who (cLast T ops.size) ops.toList 0).f m.next t [] ⟨m.next + ops.size, m.tree⟩ 0 0 [] [] none⟩
  | _, _ => ⟨fun _ _ => .fail "order"⟩

theorem cDraw_eq (T : Tab) (callF : FuncId → List AVal → AMem → Out AVal) {n : Nat} (hn : n ≤ 4000) (ops : Array Oper) (t : Q) (m : AMem) : mapO ((cDraw T callF n ops).f t m) = evDraw T callF n ops (toQ t) m := by
  unfold cDraw evDraw
  cases masks ops.toList 0 .leaf with
  | none => rfl
  | some pre =>
    cases whoOf ops.toList 0 .leaf with
    | none => rfl
    | some who =>
      simp only
      have h := cDOps_eq T callF hn ops m.next pre who (cLast T ops.size) ops.toList 0 t ⟨toQ t, [], ⟨⟨m.next + ops.size, m.tree⟩, 0, 0⟩, [], [], none⟩ rfl
      cases hd : drawOps T callF n ops m.next pre who ops.toList 0 ⟨toQ t, [], ⟨⟨m.next + ops.size, m.tree⟩, 0, 0⟩, [], [], none⟩ with
      | error w =>
        rw [hd] at h
        exact congrArg mapO h
      | ok ds =>
        rw [hd] at h
        obtain ⟨t', h1, h2⟩ := h
        refine (congrArg mapO h2).trans ?_
        simp only [BD.g, cLast, h1]
        cases stagesOk T m.next ds.made ds.st.wm ds.reads (ds.st :: ds.old) with
        | false => rfl
        | true => cases ds.pan with
          | none => rfl
          | some x => rfl

/-- A tail's answer, over records. -/
def cTail (T : Tab) (n : Nat) (c : Tail) : BT :=
  ⟨fun t m => match (cP T c.p1).f t, (cP T c.p2).f t with
  | some (.ptr b1 o1), some (.ptr b2 o2) => match Nat.beq b1 b2 with
    | true => .fail "tail"
    | false => match storeOp T m c.u1 (.ptr b1 o1) ((cE T c.v1).f t) with
      | .val _ m1 => match storeOp T m1 c.u2 (.ptr b2 o2) ((cE T c.v2).f t) with
        | .val _ m2 => match Nat.blt c.d1 n && Nat.blt c.d2 n with
          | true => .ok ((boxQ (pathOf c.d2) 12).p (.ptr b2 o2) ((boxQ (pathOf c.d1) 12).p (.ptr b1 o1) t)) m2
          | false => .fail "tail"
        | _ => .fail "tail"
      | _ => .fail "tail"
  | _, _ => .fail "tail"⟩
theorem cTail_eq (T : Tab) {n : Nat} (hn : n ≤ 4000) (c : Tail) (t : Q) (m : AMem) : mapO ((cTail T n c).f t m) = evTail T n c (toQ t) m := by
  simp only [cTail, evTail, cP_eq, cE_eq]
  cases evP T (toQ t) c.p1 with
  | none => cases evP T (toQ t) c.p2 <;> rfl
  | some x => cases evP T (toQ t) c.p2 with
    | none => cases x <;> rfl
    | some y => cases x with
      | ptr b1 o1 => cases y with
        | ptr b2 o2 =>
          simp only
          cases Nat.beq b1 b2 with
          | true => rfl
          | false =>
            simp only
            cases storeOp T m c.u1 (.ptr b1 o1) (ev T (toQ t) c.v1) with
            | val v m1 =>
              simp only
              cases storeOp T m1 c.u2 (.ptr b2 o2) (ev T (toQ t) c.v2) with
              | val v m2 =>
                simp only
                cases hb : Nat.blt c.d1 n && Nat.blt c.d2 n with
                | true =>
                  rw [Bool.and_eq_true] at hb
                  simp only [mapO, put_ok hn hb.2, put_ok hn hb.1]
                | false => rfl
              | _ => rfl
            | _ => rfl
        | _ => rfl
      | _ => cases y <;> rfl

def cAny (T : Tab) (callF : FuncId → List AVal → AMem → Out AVal) (n : Nat) (ops : Array Oper) : BT :=
  match cutOf ops with
  | none => cDraw T callF n ops
  | some c => ⟨fun t m => match (cDraw T callF n c.head).f t m with
    | .ok t' m' => (cTail T n c).f t' m'
    | .pan v m' => .pan v m'
    | .fail w => .fail w⟩
theorem cAny_eq (T : Tab) (callF : FuncId → List AVal → AMem → Out AVal) {n : Nat} (hn : n ≤ 4000) (ops : Array Oper) (t : Q) (m : AMem) : mapO ((cAny T callF n ops).f t m) = evAny T callF n ops (toQ t) m := by
  unfold cAny evAny
  cases cutOf ops with
  | none => exact cDraw_eq T callF hn ops t m
  | some c =>
    simp only
    rw [← cDraw_eq T callF hn]
    cases (cDraw T callF n c.head).f t m with
    | ok t' m' => exact cTail_eq T hn c t' m'
    | pan v m' => rfl
    | fail w => rfl

def cRegion (T : Tab) (callF : FuncId → List AVal → AMem → Out AVal) (n : Nat) (ops : Array Oper) (draw : Bool) : BT :=
  match draw with
  | false => match selOf ops.toList with
    | none => cOps T callF n ops ops.toList
    | some (o, sc, bl, rest) => ⟨fun t m => match selectOp T (toQ t) m sc bl with
      | .val v m' => match (cPut n o.dst).f v t with
        | some t' => (cOps T callF n ops rest).f t' m'
        | none => .fail o.pos
      | _ => .fail o.pos⟩
  | true => cAny T callF n ops

theorem cRegion_eq (T : Tab) (callF : FuncId → List AVal → AMem → Out AVal) {n : Nat} (hn : n ≤ 4000) (ops : Array Oper) (draw : Bool) (t : Q) (m : AMem) : mapO ((cRegion T callF n ops draw).f t m) = evRegion T callF n ops draw (toQ t) m := by
  cases draw with
  | false =>
    simp only [cRegion, evRegion]
    cases selOf ops.toList with
    | none => exact cOps_eq T callF hn ops ops.toList t m
    | some x =>
      obtain ⟨o, sc, bl, rest⟩ := x
      simp only [cPut_eq hn]
      cases selectOp T (toQ t) m sc bl with
      | val v m' =>
        simp only
        cases (cPut n o.dst).f v t with
        | none => rfl
        | some t' => exact cOps_eq T callF hn ops rest t' m'
      | _ => rfl
  | true => exact cAny_eq T callF hn ops t m

def regionOf (c : Code) : Option (Array Oper × Bool) :=
  match c with
  | .region _ ops draw => some (ops, draw)
  | _ => none

theorem regionOf_spec {c : Code} {x : Array Oper × Bool} (h : regionOf c = some x) : ∃ id, c = .region id x.1 x.2 := by
  cases c <;> simp only [regionOf] at h
  case region id ops draw => cases h; exact ⟨id, rfl⟩
  all_goals cases h

def iterQ (body : Q → AMem → Out (Ex × Q)) : Nat → Q → AMem → Out (Ex × Q)
  | 0, _, _ => .fail "fuel"
  | k + 1, t, m => match body t m with
    | .ok (.normal, t') m' => iterQ body k t' m'
    | r => r

def mapE : Out (Ex × Q) → Out (Ex × Tree AVal)
  | .ok (e, q) m => .ok (e, toQ q) m
  | .pan v m => .pan v m
  | .fail w => .fail w

theorem iterQ_eq {body : Q → AMem → Out (Ex × Q)} {body' : Tree AVal → AMem → Out (Ex × Tree AVal)} (h : ∀ t m, mapE (body t m) = body' (toQ t) m) : ∀ (k : Nat) (t : Q) (m : AMem), mapE (iterQ body k t m) = iter body' k (toQ t) m := by
  intro k
  induction k with
  | zero => intros; rfl
  | succ k ih =>
    intro t m
    simp only [iterQ, iter]
    rw [← h t m]
    cases body t m with
    | ok z m' =>
      obtain ⟨e, t'⟩ := z
      cases e with
      | normal => exact ih t' m'
      | _ => rfl
    | pan v m' => rfl
    | fail w => rfl

def cCode (T : Tab) (callF : FuncId → List AVal → AMem → Out AVal) (fuel n : Nat) : Code → BC
  | .skip => ⟨fun t m => .ok (.normal, t) m⟩
  | .region _ ops draw => ⟨fun t m => Out.rec (motive := fun _ => Out (Ex × Q)) (fun t' m' => .ok (.normal, t') m') (fun v m' => .pan v m') (fun w => .fail w) ((cRegion T callF n ops draw).f t m)⟩
  | .seq a b => match regionOf a with
    | some (ops, draw) => ⟨fun t m => Out.rec (motive := fun _ => Out (Ex × Q)) (fun t' m' => (cCode T callF fuel n b).f t' m') (fun v m' => .pan v m') (fun w => .fail w) ((cRegion T callF n ops draw).f t m)⟩
    | none => ⟨fun t m => match (cCode T callF fuel n a).f t m with
      | .ok (.normal, t') m' => (cCode T callF fuel n b).f t' m'
      | r => r⟩
  | .cond c x y => ⟨fun t m => match (cE T c).f t with
    | .bool true => (cCode T callF fuel n x).f t m
    | .bool false => (cCode T callF fuel n y).f t m
    | _ => .fail "cond"⟩
  | .block id c => ⟨fun t m => match (cCode T callF fuel n c).f t m with
    | .ok (.exit id', t') m' => match Nat.beq id' id with
      | true => .ok (.normal, t') m'
      | false => .ok (.exit id', t') m'
    | r => r⟩
  | .loop c => ⟨fun t m => iterQ (fun t m => (cCode T callF fuel n c).f t m) fuel t m⟩
  | .exit id => ⟨fun t m => .ok (.exit id, t) m⟩
  | .ret => ⟨fun t m => .ok (.ret, t) m⟩
  | _ => ⟨fun _ _ => .fail "code"⟩

theorem cCode_eq (T : Tab) (callF : FuncId → List AVal → AMem → Out AVal) (fuel : Nat) {n : Nat} (hn : n ≤ 4000) : ∀ (c : Code) (t : Q) (m : AMem), mapE ((cCode T callF fuel n c).f t m) = evCode T callF fuel n c (toQ t) m := by
  intro c
  induction c with
  | skip => intro t m; rfl
  | region id ops draw =>
    intro t m
    simp only [cCode, evCode]
    rw [← cRegion_eq T callF hn]
    cases (cRegion T callF n ops draw).f t m <;> rfl
  | seq a b iha ihb =>
    intro t m
    cases hr : regionOf a with
    | some x =>
      obtain ⟨ops, draw⟩ := x
      obtain ⟨id, rfl⟩ := regionOf_spec hr
      simp only [cCode, hr, evCode]
      rw [← cRegion_eq T callF hn]
      cases (cRegion T callF n ops draw).f t m with
      | ok t' m' => exact ihb t' m'
      | pan v m' => rfl
      | fail w => rfl
    | none =>
      simp only [cCode, hr, evCode]
      rw [← iha t m]
      cases (cCode T callF fuel n a).f t m with
      | ok z m' =>
        obtain ⟨e, t'⟩ := z
        cases e with
        | normal => exact ihb t' m'
        | _ => rfl
      | pan v m' => rfl
      | fail w => rfl
  | cond c x y ihx ihy =>
    intro t m
    simp only [cCode, evCode, cE_eq]
    cases ev T (toQ t) c with
    | bool b => cases b with
      | true => exact ihx t m
      | false => exact ihy t m
    | _ => rfl
  | block id c ih =>
    intro t m
    simp only [cCode, evCode]
    rw [← ih t m]
    cases (cCode T callF fuel n c).f t m with
    | ok z m' =>
      obtain ⟨e, t'⟩ := z
      cases e with
      | exit id' =>
        simp only [mapE]
        cases hb : Nat.beq id' id with
        | true => rw [if_pos (Nat.eq_of_beq_eq_true hb)]
        | false => rw [if_neg (Nat.ne_of_beq_eq_false hb)]
      | _ => rfl
    | pan v m' => rfl
    | fail w => rfl
  | loop c ih =>
    intro t m
    simp only [cCode, evCode]
    exact iterQ_eq ih fuel t m
  | exit id => intro t m; rfl
  | ret => intro t m; rfl
  | _ => intros; rfl

structure BV where
  f : Q → AMem → Option (List AVal)
def cRes (T : Tab) : List ResultVar → BV
  | [] => ⟨fun _ _ => some []⟩
  | .tmp i :: r => ⟨fun t m => match (cRes T r).f t m with
    | some vs => some ((cE T (.tmp i)).f t :: vs)
    | none => none⟩
  | .cell a u :: r => ⟨fun t m => match (cR T (.load u (.tmp a))).f t m.get, (cRes T r).f t m with
    | some v, some vs => some (v :: vs)
    | _, _ => none⟩
theorem cRes_eq (T : Tab) (t : Q) (m : AMem) : ∀ l : List ResultVar, (cRes T l).f t m = resultsOf T (toQ t) m l := by
  intro l
  induction l with
  | nil => rfl
  | cons x r ih =>
    cases x with
    | tmp i => simp only [cRes, resultsOf, ih, cE_eq]; rfl
    | cell a u => simp only [cRes, resultsOf, ih, cR_eq, evR]; rfl

/-! ### Functions, from registers that are all there -/
def argTree' (args : List AVal) : Tree AVal := Tree.ofListFrom args 0 (fullT 12)
def argQ : List AVal → Nat → Q → Q
  | [], _, q => q
  | x :: xs, n, q => argQ xs (n + 1) ((boxQ (pathOf n) 12).p x q)
theorem argQ_eq : ∀ (args : List AVal) (n : Nat) (q : Q), n + args.length ≤ 4000 → toQ (argQ args n q) = Tree.ofListFrom args n (toQ q) := by
  intro args
  induction args with
  | nil => intros; rfl
  | cons x xs ih =>
    intro n q h
    simp only [List.length_cons] at h
    simp only [argQ, Tree.ofListFrom]
    rw [ih (n + 1) _ (by omega), put_ok (n := 4000) (Nat.le_refl _) (Nat.ble_eq_true_of_le (by omega : n + 1 ≤ 4000))]

theorem argTree'_rel {r : Ren} {args : List AVal} {args' : Array Value} {n : Nat} (h : VsRel r args args'.toList) (hn : args.length ≤ n) :
    TRel Keep.none r (argTree' args) n { tmps := args' ++ Array.replicate (n - args'.size) undef, defers := [] } := by
  have hl : args'.size = args.length := by have := h.len; simpa using this
  refine ⟨by simp; omega, fun i v e => ?_, Keep.calm_none rfl⟩
  simp only [argTree', Tree.get_ofListFrom] at e
  rw [if_neg (by omega), Nat.sub_zero] at e
  cases ha : args[i]? with
  | none =>
    rw [ha] at e
    rw [fullT_get 12 i v e]
    exact .any _
  | some x =>
    rw [ha] at e
    cases e
    obtain ⟨v', e1, hv⟩ := h.get ha
    have hi : i < args'.size := by
      rw [hl]
      rcases Nat.lt_or_ge i args.length with c | c
      · exact c
      · rw [List.getElem?_eq_none c] at ha; cases ha
    rw [Array.getElem?_toList] at e1
    rw [Array.getD_eq_getD_getElem?, Array.getElem?_append_left hi, e1]
    exact hv

def evBody' (T : Tab) (callF : FuncId → List AVal → AMem → Out AVal) (fuel : Nat) (fn : Func) (args : List AVal) (m : AMem) : Out AVal :=
  match fn.body with
  | none => .fail "body"
  | some c => match Nat.ble args.length fn.ntmps with
    | false => .fail "args"
    | true => match evCode T callF fuel fn.ntmps c (argTree' args) m with
      | .ok (.normal, t) m' | .ok (.ret, t) m' => match resultsOf T t m' fn.results.toList with
        | some vs => .ok (oneResult vs) m'
        | none => .fail "results"
      | .ok _ _ => .fail "exit"
      | .pan v m' => .pan v m'
      | .fail w => .fail w

def evFn' (T : Tab) : Nat → FuncId → List AVal → AMem → Out AVal
  | 0, _, _, _ => .fail "depth"
  | n + 1, f, args, m => match T.spec f with
    | some F => F args m
    | none => match T.fn f with
      | some fn => evBody' T (evFn' T n) n fn args m
      | none => .fail "fn"

section
variable {T : Tab} {P : Program} (hT : TabOk T P)
include hT in
theorem evBody'_ok {callF : FuncId → List AVal → AMem → Out AVal} {fuel : Nat} {f : FuncId} {fn : Func} (hreg : RegionOk Keep.none T P callF fn.ntmps) (hf : P.funcs[f]? = some fn)
    {r : Ren} {w : World} {m : AMem} {args : List AVal} {args' : Array Value} (hg : GlobOk T r) (hm : MemRel r m.next m.get w) (ha : VsRel r args args'.toList)
    (hgood : (evBody' T callF fuel fn args m).good) : fn.body.isSome = true ∧ Calls P f args' w (Post r m w (evBody' T callF fuel fn args m)) := by
  unfold evBody' at hgood ⊢
  cases hb : fn.body with
  | none => rw [hb] at hgood; exact hgood.elim
  | some c =>
    rw [hb] at hgood
    refine ⟨rfl, ?_⟩
    simp only at hgood ⊢
    cases hle : Nat.ble args.length fn.ntmps with
    | false => rw [hle] at hgood; exact hgood.elim
    | true =>
      rw [hle] at hgood
      simp only at hgood ⊢
      have hn := Nat.le_of_ble_eq_true hle
      have ht := argTree'_rel (n := fn.ntmps) ha hn
      refine calls_of_wp hf hb (evCode_ok (fuel := fuel) hreg c r (argTree' args) _ m w _ (Keep.avoids_none c) hg ht hm ?_)
      have fin : ∀ (t : Tree AVal) (m' : AMem) (out : Out AVal), out = (match resultsOf T t m' fn.results.toList with | some vs => Out.ok (oneResult vs) m' | none => .fail "results") → out.good →
          ∀ r' a' w', TRel Keep.none r' t fn.ntmps a' → GlobOk T r' → Step r m.next m.get w r' m'.next m'.get w' →
            a'.defers = [] ∧ ∃ v, (results fn a'.tmps).run P w' = .ok v w' ∧ Post r m w out (.returned v) w' := by
        intro t m' out hout hgo r' a' w' p q s
        refine ⟨p.calm.1, ?_⟩
        cases hr : resultsOf T t m' fn.results.toList with
        | none => rw [hr] at hout; rw [hout] at hgo; exact hgo.elim
        | some vs =>
          rw [hr] at hout
          obtain ⟨F, eF, f1, f2⟩ : ∃ F : ResultVar → Sem Value, results fn a'.tmps = (do let vs ← fn.results.mapM F; pure (if h : vs.size = 1 then vs[0] else .tuple vs)) ∧
              (∀ i, F (.tmp i) = pure (a'.tmps.getD i undef)) ∧ (∀ b u, F (.cell b u) = (do loadVar u (← asAddr (a'.tmps.getD b undef)))) := ⟨_, rfl, fun _ => rfl, fun _ _ => rfl⟩
          obtain ⟨vs', e, hv⟩ := resultsOf_ok (P := P) hT q p s.mem F f1 f2 hr
          have hlen := hv.len
          refine ⟨if h : vs'.toArray.size = 1 then vs'.toArray[0] else .tuple vs'.toArray, ?_, ?_⟩
          · rw [eF, Array.mapM_eq_mapM_toList]
            simp only [Sem.run_bind, Sem.run_map, e, Result.andThen_ok, Sem.run_pure]
          · rw [hout]
            refine ⟨r', _, rfl, ?_, s⟩
            cases vs with
            | nil =>
              have := hv.nil_inv
              subst this
              exact .tupleOf (.nil r')
            | cons v vs =>
              cases vs with
              | nil =>
                obtain ⟨v', t', e1, e2, e3⟩ := hv.cons_inv
                have := e3.nil_inv
                subst this
                subst e1
                exact e2
              | cons u us =>
                have hne : ¬ vs'.toArray.size = 1 := by simp; simp at hlen; omega
                rw [dif_neg hne]
                exact .tupleOf hv
      cases hx : evCode T callF fuel fn.ntmps c (argTree' args) m with
      | ok z m' =>
        obtain ⟨e, t⟩ := z
        rw [hx] at hgood
        cases e with
        | normal => exact fin t m' _ rfl hgood
        | ret => exact fin t m' _ rfl hgood
        | exit id => exact hgood.elim
        | goto l => exact hgood.elim
      | pan v m' =>
        intro r' a' v' w' p q s
        exact ⟨p.1, r', v', rfl, q, s⟩
      | fail why => rw [hx] at hgood; exact hgood.elim

include hT in
theorem evFn'_ok (hspec : ∀ f F, T.spec f = some F → CallOk T P f F)
    (hreg : ∀ (callF : FuncId → List AVal → AMem → Out AVal), (∀ f, CallOk T P f (callF f)) → ∀ n, RegionOk Keep.none T P callF n) : ∀ (k : Nat) (f : FuncId), CallOk T P f (evFn' T k f) := by
  intro k
  induction k with
  | zero => intro f r w m args args' hg hm ha hgood; exact hgood.elim
  | succ k ih =>
    intro f r w m args args' hg hm ha hgood
    simp only [evFn'] at hgood ⊢
    cases hs : T.spec f with
    | some F =>
      rw [hs] at hgood
      exact hspec f F hs r w m args args' hg hm ha hgood
    | none =>
      rw [hs] at hgood
      simp only at hgood ⊢
      cases hf : T.fn f with
      | none => rw [hf] at hgood; exact hgood.elim
      | some fn =>
        rw [hf] at hgood
        simp only at hgood ⊢
        obtain ⟨h1, h2⟩ := hT.fn f fn hf
        obtain ⟨b1, b2⟩ := evBody'_ok hT (hreg _ ih fn.ntmps) h1 hg hm ha hgood
        refine .inr ⟨?_, b2⟩
        have hbn : ¬ fn.body = none := by intro e; rw [e] at b1; cases b1
        have h2' : ¬ fn.name = "runtime.NumGoroutine" := by simpa using h2
        simp [callFunc, h1, h2', hbn]
end

theorem evFn'_sound {T : Tab} {P : Program} (hT : TabOk T P) (hmix : P.follows .mixedOrders = true) (hspec : ∀ f F, T.spec f = some F → CallOk T P f F) (k : Nat) (f : FuncId) : CallOk T P f (evFn' T k f) :=
  evFn'_ok hT hspec (fun _ hcall n => region_ok hT hmix hcall n) k f

def cBody (T : Tab) (callF : FuncId → List AVal → AMem → Out AVal) (fuel : Nat) (fn : Func) : BF :=
  match fn.body with
  | none => ⟨fun _ _ => .fail "body"⟩
  | some c => match Nat.ble fn.ntmps 4000 with
    | false => ⟨fun args m => evBody' T callF fuel fn args m⟩
    | true => ⟨fun args m => match Nat.ble (lenR args) fn.ntmps with
      | false => .fail "args"
      | true => match (cCode T callF fuel fn.ntmps c).f (argQ args 0 (noneQ 12)) m with
        | .ok (.normal, t) m' | .ok (.ret, t) m' => match (cRes T fn.results.toList).f t m' with
          | some vs => .ok (oneResult vs) m'
          | none => .fail "results"
        | .ok _ _ => .fail "exit"
        | .pan v m' => .pan v m'
        | .fail w => .fail w⟩

theorem cBody_eq (T : Tab) (callF : FuncId → List AVal → AMem → Out AVal) (fuel : Nat) (fn : Func) (args : List AVal) (m : AMem) : (cBody T callF fuel fn).f args m = evBody' T callF fuel fn args m := by
  unfold cBody
  cases hb : fn.body with
  | none => simp only [evBody', hb]
  | some c =>
    simp only
    cases hn : Nat.ble fn.ntmps 4000 with
    | false => rfl
    | true =>
      have hn := Nat.le_of_ble_eq_true hn
      simp only [evBody', hb, lenR_eq]
      cases hl : Nat.ble args.length fn.ntmps with
      | false => rfl
      | true =>
        have hl := Nat.le_of_ble_eq_true hl
        have h0 : toQ (argQ args 0 (noneQ 12)) = argTree' args := by
          rw [argQ_eq args 0 _ (by omega)]
          exact congrArg (Tree.ofListFrom args 0) (toT_none 12)
        simp only
        rw [← h0, ← cCode_eq T callF fuel hn]
        cases (cCode T callF fuel fn.ntmps c).f (argQ args 0 (noneQ 12)) m with
        | ok z m' =>
          obtain ⟨e, t'⟩ := z
          simp only [mapE, cRes_eq]
          cases e <;> rfl
        | pan v m' => rfl
        | fail w => rfl

def cFn (T : Tab) : Nat → FuncId → BF
  | 0, _ => ⟨fun _ _ => .fail "depth"⟩
  | n + 1, f => match T.spec f with
    | some F => ⟨F⟩
    | none => match T.fn f with
      | some fn => cBody T (fun g args m => (cFn T n g).f args m) n fn
      | none => ⟨fun _ _ => .fail "fn"⟩

theorem cFn_eq (T : Tab) : ∀ (k : Nat) (f : FuncId) (args : List AVal) (m : AMem), (cFn T k f).f args m = evFn' T k f args m := by
  intro k
  induction k with
  | zero => intros; rfl
  | succ k ih =>
    intro f args m
    have hc : (fun g args m => (cFn T k g).f args m) = evFn' T k := by funext g a m; exact ih g a m
    simp only [cFn, evFn']
    cases T.spec f with
    | some F => rfl
    | none =>
      simp only
      cases T.fn f with
      | some fn => simp only [cBody_eq, hc]
      | none => rfl

/-- The evaluator, made ready. -/
def xFn (T : Tab) (k : Nat) (f : FuncId) (args : List AVal) (m : AMem) : Out AVal := (cFn T k f).f args m
theorem xFn_sound {T : Tab} {P : Program} (hT : TabOk T P) (hmix : P.follows .mixedOrders = true) (hspec : ∀ f F, T.spec f = some F → CallOk T P f F) (k : Nat) (f : FuncId) : CallOk T P f (xFn T k f) := by
  have h : xFn T k f = evFn' T k f := by
    funext args m
    exact cFn_eq T k f args m
  rw [h]
  exact evFn'_sound hT hmix hspec k f
end
end Ev
end Go.Proofs.YtjmapihogpdocaaGreatDoor
