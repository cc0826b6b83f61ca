/-
  How the evaluator's abstract values and memory stand to the machine's, and that its pure operations answer what the machine's do. (Conditions: the tables tell of the program what is so.)
-/
import Derived.Test.YtfddpaljmihinaaGreatDoorEvBase
import Derived.Laws.Sem
import Derived.Laws.Entries
import Derived.Laws.StructEq
namespace Go.Proofs.YtfddpaljmihinaaGreatDoor
namespace Ev
/-- What code leaves as it is: the deferred calls, and some temporaries. -/
structure Keep where
  defers : List Deferred
  pin : Nat → Option Value
def Keep.none : Keep := ⟨[], fun _ => .none⟩
def Keep.calm (D : Keep) (a : Act) : Prop := a.defers = D.defers ∧ ∀ u v, D.pin u = some v → a.tmps.getD u undef = v
def Keep.frees (D : Keep) (ops : Array Oper) : Prop := ∀ (i : Nat) (o : Oper) (d : Nat), ops[i]? = some o → o.dst = some d → D.pin d = Option.none
theorem Keep.frees_none (ops : Array Oper) : Keep.none.frees ops := fun _ _ _ _ _ => rfl
theorem Keep.calm_none {a : Act} (h : a.defers = []) : Keep.none.calm a := ⟨h, fun _ _ e => by cases e⟩
theorem Keep.calm.put {D : Keep} {a : Act} (h : D.calm a) {d : Option Nat} (hf : ∀ d', d = some d' → D.pin d' = Option.none) (v : Value) : D.calm (a.put d v) := by
  cases d with
  | none => exact h
  | some d =>
    refine ⟨h.1, fun u x e => ?_⟩
    have hne : ¬ d = u := by intro c; subst c; rw [hf d rfl] at e; cases e
    simp only [Act.put]
    rw [Array.getD_eq_getD_getElem?, Array.getElem?_setIfInBounds, if_neg hne, ← Array.getD_eq_getD_getElem?]
    exact h.2 u x e

open Go
variable {D : Keep}

/-! ### Trees -/
theorem Tree.get_zero {α : Type} (l : Tree α) (v : Option α) (r : Tree α) : (Tree.node l v r).get 0 = v := rfl
theorem Tree.get_leaf {α : Type} (k : Nat) : (Tree.leaf : Tree α).get k = none := rfl
theorem Tree.get_succ {α : Type} (l : Tree α) (v : Option α) (r : Tree α) (k : Nat) : (Tree.node l v r).get (k + 1) = match Nat.beq (k % 2) 0 with | true => l.get (k / 2) | false => r.get (k / 2) := by
  show Bool.rec (motive := fun _ => Option α) (r.get (k / 2)) (l.get (k / 2)) (Nat.beq (k % 2) 0) = _
  cases Nat.beq (k % 2) 0 <;> rfl
theorem Tree.setF_zero {α : Type} (t : Tree α) (n : Nat) (x : Option α) : Tree.setF 0 t n x = t := rfl
theorem Tree.setF_leaf0 {α : Type} (f : Nat) (x : Option α) : Tree.setF (f + 1) .leaf 0 x = .node .leaf x .leaf := rfl
theorem Tree.setF_node0 {α : Type} (f : Nat) (l : Tree α) (v : Option α) (r : Tree α) (x : Option α) : Tree.setF (f + 1) (.node l v r) 0 x = .node l x r := rfl
theorem Tree.setF_leafS {α : Type} (f k : Nat) (x : Option α) : Tree.setF (f + 1) .leaf (k + 1) x = match Nat.beq (k % 2) 0 with | true => .node (Tree.setF f .leaf (k / 2) x) none .leaf | false => .node .leaf none (Tree.setF f .leaf (k / 2) x) := by
  show Bool.rec (motive := fun _ => Tree α) (.node .leaf none (Tree.setF f .leaf (k / 2) x)) (.node (Tree.setF f .leaf (k / 2) x) none .leaf) (Nat.beq (k % 2) 0) = _
  cases Nat.beq (k % 2) 0 <;> rfl
theorem Tree.setF_nodeS {α : Type} (f k : Nat) (l : Tree α) (v : Option α) (r : Tree α) (x : Option α) : Tree.setF (f + 1) (.node l v r) (k + 1) x = match Nat.beq (k % 2) 0 with | true => .node (Tree.setF f l (k / 2) x) v r | false => .node l v (Tree.setF f r (k / 2) x) := by
  show Bool.rec (motive := fun _ => Tree α) (.node l v (Tree.setF f r (k / 2) x)) (.node (Tree.setF f l (k / 2) x) v r) (Nat.beq (k % 2) 0) = _
  cases Nat.beq (k % 2) 0 <;> rfl
theorem Tree.get_setF {α : Type} : ∀ (f : Nat) (t : Tree α) (n : Nat) (x : Option α) (k : Nat), n < f →
    (Tree.setF f t n x).get k = if n = k then x else t.get k := by
  intro f
  induction f with
  | zero => intro t n x k h; omega
  | succ f ih =>
    intro t n x k h
    cases t with
    | leaf =>
      cases n with
      | zero => cases k with
        | zero => simp [Tree.setF_leaf0, Tree.get_zero]
        | succ k => simp only [Tree.setF_leaf0, Tree.get_succ, Tree.get_leaf]; rw [if_neg (by omega)]; split <;> rfl
      | succ n =>
        cases k with
        | zero => simp only [Tree.setF_leafS]; split <;> simp [Tree.get_zero, Tree.get_leaf]
        | succ k =>
          have e1 := ih .leaf (n / 2) x (k / 2) (by omega)
          have hl : ∀ j, (Tree.leaf : Tree α).get j = none := fun j => rfl
          simp only [Tree.setF_leafS]
          cases hn : Nat.beq (n % 2) 0 <;> cases hk : Nat.beq (k % 2) 0 <;> simp only [Tree.get_succ, Tree.get_leaf, hk, e1]
          · have hn' : n % 2 ≠ 0 := by intro h; rw [h] at hn; exact absurd hn (by decide)
            have hk' : k % 2 ≠ 0 := by intro h; rw [h] at hk; exact absurd hk (by decide)
            by_cases e : n / 2 = k / 2
            · rw [if_pos e, if_pos (by omega)]
            · rw [if_neg e, if_neg (by omega)]
          · have hk' : k % 2 = 0 := Nat.eq_of_beq_eq_true hk
            have hn' : n % 2 ≠ 0 := by intro h; rw [h] at hn; exact absurd hn (by decide)
            rw [if_neg (by omega)]
          · have hn' : n % 2 = 0 := Nat.eq_of_beq_eq_true hn
            have hk' : k % 2 ≠ 0 := by intro h; rw [h] at hk; exact absurd hk (by decide)
            rw [if_neg (by omega)]
          · have hn' : n % 2 = 0 := Nat.eq_of_beq_eq_true hn
            have hk' : k % 2 = 0 := Nat.eq_of_beq_eq_true hk
            by_cases e : n / 2 = k / 2
            · rw [if_pos e, if_pos (by omega)]
            · rw [if_neg e, if_neg (by omega)]
    | node l v r =>
      cases n with
      | zero => cases k with
        | zero => simp [Tree.setF_node0, Tree.get_zero]
        | succ k => simp only [Tree.setF_node0, Tree.get_succ]; rw [if_neg (by omega)]
      | succ n =>
        cases k with
        | zero => simp only [Tree.setF_nodeS]; split <;> simp [Tree.get_zero]
        | succ k =>
          have e1 := ih l (n / 2) x (k / 2) (by omega)
          have e2 := ih r (n / 2) x (k / 2) (by omega)
          simp only [Tree.setF_nodeS]
          cases hn : Nat.beq (n % 2) 0 <;> cases hk : Nat.beq (k % 2) 0 <;> simp only [Tree.get_succ, hk, e1, e2]
          · have hn' : n % 2 ≠ 0 := by intro h; rw [h] at hn; exact absurd hn (by decide)
            have hk' : k % 2 ≠ 0 := by intro h; rw [h] at hk; exact absurd hk (by decide)
            by_cases e : n / 2 = k / 2
            · rw [if_pos e, if_pos (by omega)]
            · rw [if_neg e, if_neg (by omega)]
          · have hk' : k % 2 = 0 := Nat.eq_of_beq_eq_true hk
            have hn' : n % 2 ≠ 0 := by intro h; rw [h] at hn; exact absurd hn (by decide)
            rw [if_neg (by omega)]
          · have hn' : n % 2 = 0 := Nat.eq_of_beq_eq_true hn
            have hk' : k % 2 ≠ 0 := by intro h; rw [h] at hk; exact absurd hk (by decide)
            rw [if_neg (by omega)]
          · have hn' : n % 2 = 0 := Nat.eq_of_beq_eq_true hn
            have hk' : k % 2 = 0 := Nat.eq_of_beq_eq_true hk
            by_cases e : n / 2 = k / 2
            · rw [if_pos e, if_pos (by omega)]
            · rw [if_neg e, if_neg (by omega)]

theorem Tree.get_set {α : Type} (t : Tree α) (n : Nat) (x : Option α) (k : Nat) : (t.set n x).get k = if n = k then x else t.get k :=
  Tree.get_setF (n + 1) t n x k (by omega)
theorem Tree.get_put {α : Type} (t : Tree α) (n : Nat) (x : α) (k : Nat) : (t.put n x).get k = if n = k then some x else t.get k :=
  Tree.get_set t n (some x) k
theorem Tree.get_ofListFrom {α : Type} : ∀ (l : List α) (n : Nat) (t : Tree α) (k : Nat),
    (Tree.ofListFrom l n t).get k = if k < n then t.get k else match l[k - n]? with | some x => some x | none => t.get k := by
  intro l
  induction l with
  | nil => intro n t k; simp [Tree.ofListFrom]
  | cons x xs ih =>
    intro n t k
    simp only [Tree.ofListFrom]
    rw [ih, Tree.get_put]
    by_cases h : k < n
    · rw [if_pos (by omega), if_neg (by omega), if_pos h]
    · by_cases e : n = k
      · subst e; simp
      · rw [if_neg (by omega), if_neg h]
        have : k - n = (k - (n + 1)) + 1 := by omega
        rw [this, List.getElem?_cons_succ, if_neg e]

theorem Tree.get_ofList {α : Type} (l : List α) (k : Nat) : (Tree.ofList l).get k = l[k]? := by
  unfold Tree.ofList
  rw [Tree.get_ofListFrom, if_neg (by omega)]
  simp only [Nat.sub_zero, Tree.get_leaf]
  cases l[k]? <;> rfl

/-! ### Renamings -/
structure Blk where
  cb : Nat
  base : Nat
  size : Nat

structure Ren where
  at_ : Nat → Option Blk

def Ren.le (r r' : Ren) : Prop := ∀ b B, r.at_ b = some B → r'.at_ b = some B
theorem Ren.le_refl (r : Ren) : r.le r := fun _ _ h => h
theorem Ren.le_trans {a b c : Ren} (h : a.le b) (k : b.le c) : a.le c := fun x B e => k x B (h x B e)

def Cap.holds : Cap → Nat → Prop
  | .exact n, c => c = n
  | .least n, c => n ≤ c

inductive VRel (r : Ren) : AVal → Value → Prop where
  | any (v : Value) : VRel r .any v
  | bool (b : Bool) : VRel r (.bool b) (.bool b)
  | int (k : IntKind) (n : Int) : VRel r (.int k n) (.int k n)
  | str (s : ByteArray) (l : List UInt8) (h : s.data.toList = l) : VRel r (.str l) (.string s)
  | nptr : VRel r .nptr (.pointer none)
  | ptr (b o : Nat) (B : Blk) (h : r.at_ b = some B) : VRel r (.ptr b o) (.pointer (some ⟨B.cb, B.base + o, none⟩))
  | nslice : VRel r .nslice (.slice none 0 0)
  | slice (b o len esz : Nat) (cap : Cap) (B : Blk) (a : Addr) (c : Nat) (h : r.at_ b = some B) (hc : cap.holds c) (hl : len ≤ c)
      (hr : c = 0 ∨ (a = ⟨B.cb, B.base + o, none⟩ ∧ B.base + o + c * esz ≤ B.size)) : VRel r (.slice b o len esz cap) (.slice (some a) len c)
  | nmap : VRel r .nmap (.map none)
  | map (b : Nat) (B : Blk) (h : r.at_ b = some B) : VRel r (.map b) (.map (some B.cb))
  | func (fn : Fn) (f c : List AVal) (f' c' : Array Value) (hf : f'.toList.length = f.length) (hc : c'.toList.length = c.length)
      (h1 : ∀ (i : Nat) v v', f[i]? = some v → f'.toList[i]? = some v' → VRel r v v')
      (h2 : ∀ (i : Nat) v v', c[i]? = some v → c'.toList[i]? = some v' → VRel r v v') : VRel r (.func fn f c) (.func fn f' c')
  | nfunc : VRel r .nfunc .nilFunc
  | iface (t : TypeId) (v : AVal) (v' : Value) (h : VRel r v v') : VRel r (.iface t v) (.iface t v')
  | niface : VRel r .niface .nilIface
  | agg (cs : List AVal) (cs' : Array Value) (hl : cs'.toList.length = cs.length)
      (h : ∀ (i : Nat) v v', cs[i]? = some v → cs'.toList[i]? = some v' → VRel r v v') : VRel r (.agg cs) (.agg cs')
  | tuple (cs : List AVal) (cs' : Array Value) (hl : cs'.toList.length = cs.length)
      (h : ∀ (i : Nat) v v', cs[i]? = some v → cs'.toList[i]? = some v' → VRel r v v') : VRel r (.tuple cs) (.tuple cs')

theorem VRel.mono {r r' : Ren} (hle : r.le r') {v : AVal} {v' : Value} (h : VRel r v v') : VRel r' v v' := by
  induction h with
  | any v => exact .any v
  | bool b => exact .bool b
  | int k n => exact .int k n
  | str s l h => exact .str s l h
  | nptr => exact .nptr
  | ptr b o B h => exact .ptr b o B (hle _ _ h)
  | nslice => exact .nslice
  | slice b o len esz cap B a c h hc hl hr => exact .slice b o len esz cap B a c (hle _ _ h) hc hl hr
  | nmap => exact .nmap
  | map b B h => exact .map b B (hle _ _ h)
  | func fn f c f' c' hf hc _ _ i1 i2 => exact .func fn f c f' c' hf hc i1 i2
  | nfunc => exact .nfunc
  | iface t v v' _ ih => exact .iface t v v' ih
  | niface => exact .niface
  | agg cs cs' hl _ ih => exact .agg cs cs' hl ih
  | tuple cs cs' hl _ ih => exact .tuple cs cs' hl ih

/-- Lists of values, place by place. -/
structure VsRel (r : Ren) (l : List AVal) (l' : List Value) : Prop where
  len : l'.length = l.length
  at_ : ∀ (i : Nat) v v', l[i]? = some v → l'[i]? = some v' → VRel r v v'

theorem VsRel.mono {r r' : Ren} (hle : r.le r') {l : List AVal} {l' : List Value} (h : VsRel r l l') : VsRel r' l l' :=
  ⟨h.len, fun i v v' a b => (h.at_ i v v' a b).mono hle⟩
theorem VsRel.nil (r : Ren) : VsRel r [] [] := ⟨rfl, fun i v v' h => by simp at h⟩
theorem VsRel.cons {r : Ren} {v : AVal} {v' : Value} {l : List AVal} {l' : List Value} (h : VRel r v v') (t : VsRel r l l') : VsRel r (v :: l) (v' :: l') := by
  refine ⟨by simp [t.len], fun i u u' a b => ?_⟩
  cases i with
  | zero => simp at a b; subst a; subst b; exact h
  | succ i => exact t.at_ i u u' (by simpa using a) (by simpa using b)
theorem VsRel.head {r : Ren} {v : AVal} {v' : Value} {l : List AVal} {l' : List Value} (h : VsRel r (v :: l) (v' :: l')) : VRel r v v' := h.at_ 0 v v' rfl rfl
theorem VsRel.tail {r : Ren} {v : AVal} {v' : Value} {l : List AVal} {l' : List Value} (h : VsRel r (v :: l) (v' :: l')) : VsRel r l l' :=
  ⟨by simpa using h.len, fun i u u' a b => h.at_ (i + 1) u u' (by simpa using a) (by simpa using b)⟩
theorem VsRel.cons_inv {r : Ren} {v : AVal} {l : List AVal} {l' : List Value} (h : VsRel r (v :: l) l') : ∃ v' t', l' = v' :: t' ∧ VRel r v v' ∧ VsRel r l t' := by
  cases l' with
  | nil => have := h.len; simp at this
  | cons v' t' => exact ⟨v', t', rfl, h.head, h.tail⟩
theorem VsRel.nil_inv {r : Ren} {l' : List Value} (h : VsRel r [] l') : l' = [] := by
  have := h.len; simpa using this
theorem VsRel.append {r : Ren} {a b : List AVal} {a' b' : List Value} (h : VsRel r a a') (k : VsRel r b b') : VsRel r (a ++ b) (a' ++ b') := by
  refine ⟨by simp [h.len, k.len], fun i v v' x y => ?_⟩
  rw [List.getElem?_append] at x y
  rw [h.len] at y
  by_cases c : i < a.length
  · rw [if_pos c] at x y; exact h.at_ i v v' x y
  · rw [if_neg c] at x y; exact k.at_ _ v v' x y
theorem VsRel.take {r : Ren} {a : List AVal} {a' : List Value} (h : VsRel r a a') (n : Nat) : VsRel r (a.take n) (a'.take n) := by
  refine ⟨by simp [h.len], fun i v v' x y => ?_⟩
  rw [List.getElem?_take] at x y
  by_cases c : i < n
  · rw [if_pos c] at x y; exact h.at_ i v v' x y
  · rw [if_neg c] at x; cases x
theorem VsRel.drop {r : Ren} {a : List AVal} {a' : List Value} (h : VsRel r a a') (n : Nat) : VsRel r (a.drop n) (a'.drop n) := by
  refine ⟨by simp [h.len], fun i v v' x y => ?_⟩
  rw [List.getElem?_drop] at x y
  exact h.at_ _ v v' x y
theorem VsRel.get {r : Ren} {a : List AVal} {a' : List Value} (h : VsRel r a a') {i : Nat} {v : AVal} (e : a[i]? = some v) : ∃ v', a'[i]? = some v' ∧ VRel r v v' := by
  have hi : i < a.length := by
    rcases Nat.lt_or_ge i a.length with c | c
    · exact c
    · rw [List.getElem?_eq_none c] at e; cases e
  have : a'[i]? = some (a'[i]'(by rw [h.len]; exact hi)) := List.getElem?_eq_getElem _
  exact ⟨_, this, h.at_ i v _ e this⟩
theorem VsRel.over {r : Ren} {a c : List AVal} {a' c' : List Value} (h : VsRel r a a') (k : VsRel r c c') (n : Nat) :
    VsRel r (over a n c) (a'.take n ++ c' ++ a'.drop (n + c'.length)) := by
  unfold Ev.over
  rw [k.len]
  exact ((h.take n).append k).append (h.drop _)

theorem VRel.aggOf {r : Ren} {cs : List AVal} {cs' : Array Value} (h : VsRel r cs cs'.toList) : VRel r (.agg cs) (.agg cs') := .agg cs cs' h.len h.at_
theorem VRel.tupleOf {r : Ren} {cs : List AVal} {cs' : Array Value} (h : VsRel r cs cs'.toList) : VRel r (.tuple cs) (.tuple cs') := .tuple cs cs' h.len h.at_

/-! What stands on the other side. -/
theorem VRel.bool_inv {r : Ren} {b : Bool} {v : Value} (h : VRel r (.bool b) v) : v = .bool b := by cases h; rfl
theorem VRel.int_inv {r : Ren} {k : IntKind} {n : Int} {v : Value} (h : VRel r (.int k n) v) : v = .int k n := by cases h; rfl
theorem VRel.str_inv {r : Ren} {l : List UInt8} {v : Value} (h : VRel r (.str l) v) : ∃ s : ByteArray, v = .string s ∧ s.data.toList = l := by cases h with | str s l h => exact ⟨s, rfl, h⟩
theorem VRel.nptr_inv {r : Ren} {v : Value} (h : VRel r .nptr v) : v = .pointer none := by cases h; rfl
theorem VRel.ptr_inv {r : Ren} {b o : Nat} {v : Value} (h : VRel r (.ptr b o) v) : ∃ B, r.at_ b = some B ∧ v = .pointer (some ⟨B.cb, B.base + o, none⟩) := by
  cases h with | ptr b o B h => exact ⟨B, h, rfl⟩
theorem VRel.nslice_inv {r : Ren} {v : Value} (h : VRel r .nslice v) : v = .slice none 0 0 := by cases h; rfl
theorem VRel.slice_inv {r : Ren} {b o len esz : Nat} {cap : Cap} {v : Value} (h : VRel r (.slice b o len esz cap) v) :
    ∃ B a c, r.at_ b = some B ∧ v = .slice (some a) len c ∧ cap.holds c ∧ len ≤ c ∧ (c = 0 ∨ (a = ⟨B.cb, B.base + o, none⟩ ∧ B.base + o + c * esz ≤ B.size)) := by
  cases h with | slice b o len esz cap B a c h hc hl hr => exact ⟨B, a, c, h, rfl, hc, hl, hr⟩
theorem VRel.nmap_inv {r : Ren} {v : Value} (h : VRel r .nmap v) : v = .map none := by cases h; rfl
theorem VRel.map_inv {r : Ren} {b : Nat} {v : Value} (h : VRel r (.map b) v) : ∃ B, r.at_ b = some B ∧ v = .map (some B.cb) := by
  cases h with | map b B h => exact ⟨B, h, rfl⟩
theorem VRel.nfunc_inv {r : Ren} {v : Value} (h : VRel r .nfunc v) : v = .nilFunc := by cases h; rfl
theorem VRel.niface_inv {r : Ren} {v : Value} (h : VRel r .niface v) : v = .nilIface := by cases h; rfl
theorem VRel.iface_inv {r : Ren} {t : TypeId} {u : AVal} {v : Value} (h : VRel r (.iface t u) v) : ∃ u', v = .iface t u' ∧ VRel r u u' := by
  cases h with | iface t v v' h => exact ⟨v', rfl, h⟩
theorem VRel.agg_inv {r : Ren} {cs : List AVal} {v : Value} (h : VRel r (.agg cs) v) : ∃ cs' : Array Value, v = .agg cs' ∧ VsRel r cs cs'.toList := by
  cases h with | agg cs cs' hl h => exact ⟨cs', rfl, hl, h⟩
theorem VRel.tuple_inv {r : Ren} {cs : List AVal} {v : Value} (h : VRel r (.tuple cs) v) : ∃ cs' : Array Value, v = .tuple cs' ∧ VsRel r cs cs'.toList := by
  cases h with | tuple cs cs' hl h => exact ⟨cs', rfl, hl, h⟩
theorem VRel.func_inv {r : Ren} {fn : Fn} {f c : List AVal} {v : Value} (h : VRel r (.func fn f c) v) :
    ∃ f' c' : Array Value, v = .func fn f' c' ∧ VsRel r f f'.toList ∧ VsRel r c c'.toList := by
  cases h with | func fn f c f' c' hf hc h1 h2 => exact ⟨f', c', rfl, ⟨hf, h1⟩, ⟨hc, h2⟩⟩

/-- The cells of a value. -/
theorem VRel.cells {r : Ren} {v : AVal} {v' : Value} (h : VRel r v v') (hv : v ≠ .any) (ht : ∀ vs, v ≠ .tuple vs) : VsRel r v.cells v'.cells.toList := by
  have one : ∀ {x : AVal} {x' : Value}, VRel r x x' → VsRel r [x] [x'] := fun h => .cons h (.nil r)
  cases h with
  | any => exact absurd rfl hv
  | agg cs cs' hl h => exact ⟨hl, h⟩
  | tuple cs _ _ _ => exact absurd rfl (ht cs)
  | bool b => exact one (.bool b)
  | int k n => exact one (.int k n)
  | str s l h => exact one (.str s l h)
  | nptr => exact one .nptr
  | ptr b o B h => exact one (.ptr b o B h)
  | nslice => exact one .nslice
  | slice b o len esz cap B a c h hc hl hr => exact one (.slice b o len esz cap B a c h hc hl hr)
  | nmap => exact one .nmap
  | map b B h => exact one (.map b B h)
  | func fn f c f' c' hf hc h1 h2 => exact one (.func fn f c f' c' hf hc h1 h2)
  | nfunc => exact one .nfunc
  | iface t v v' h => exact one (.iface t v v' h)
  | niface => exact one .niface

theorem absCell_rel (r : Ren) (v : Value) : VRel r (absCell v) v := by
  unfold absCell
  split <;> first | exact .any _ | exact .bool _ | exact .int _ _ | exact .str _ _ rfl | exact .nptr | exact .nslice | exact .nmap | exact .nfunc | exact .niface
theorem absV_rel (r : Ren) (v : Value) : VRel r (absV v) v := by
  unfold absV
  split
  · rename_i cs
    refine .aggOf ⟨by simp, fun i v v' a b => ?_⟩
    rw [List.getElem?_map, b] at a
    simp at a
    subst a
    exact absCell_rel r v'
  · exact absCell_rel r _

/-! ### The tables -/
structure TabOk (T : Tab) (P : Program) : Prop where
  prog : T.prog = P
  fn : ∀ f x, T.fn f = some x → P.funcs[f]? = some x ∧ (x.name == "runtime.NumGoroutine") = false
  info : ∀ t i, T.info t = some i → P.info? t = some i
  eqs : ∀ t, T.eqs t = true → P.stoodInHeld t = false ∧ P.eqGuardType P.depth t = false ∧ ((P.fieldsOf t).toList.all fun f => f.name != "_") = true

theorem TabOk.und {T : Tab} {P : Program} (h : TabOk T P) {t : TypeId} {d : TypeDesc} (e : T.und t = some d) : P.underlying t = some d := by
  unfold Tab.und at e
  unfold Program.underlying
  split at e
  · rename_i n u _ _ _ _ _ _ _ _ _ hi
    rw [h.info _ _ hi]
    cases hu : T.info u with
    | none => rw [hu] at e; simp at e
    | some i => rw [hu] at e; simp at e; simp [h.info _ _ hu, e]
  · rename_i i hn hi
    rw [h.info _ _ hi]
    simp only [Option.some.injEq] at e
    split
    · rename_i heq; exact (hn _ _ _ _ _ _ _ _ _ _ _ (Option.some.inj heq)).elim
    · rename_i i' _ heq; have := Option.some.inj heq; subst this; rw [e]
    · rename_i heq; cases heq
  · cases e

theorem TabOk.size {T : Tab} {P : Program} (h : TabOk T P) {t : TypeId} {n : Nat} (e : T.size t = some n) : ∃ i, P.info? t = some i ∧ i.size = n := by
  unfold Tab.size at e
  cases hi : T.info t with
  | none => rw [hi] at e; simp at e
  | some i => rw [hi] at e; exact ⟨i, h.info _ _ hi, by simpa using e⟩

section
variable {T : Tab} {P : Program} (hT : TabOk T P)
include hT
theorem run_und {t : TypeId} {d : TypeDesc} (e : T.und t = some d) (w : World) : (underlying t).run P w = .ok d w := run_underlying (hT.und e) w
theorem run_size {t : TypeId} {n : Nat} (e : T.size t = some n) (w : World) : (sizeOf t).run P w = .ok n w := by
  obtain ⟨i, hi, hn⟩ := hT.size e
  simp [sizeOf, typeInfo, hi, hn]
theorem run_isAgg {t : TypeId} {b : Bool} (e : T.isAgg t = some b) (w : World) : (isAgg t).run P w = .ok b w := by
  unfold Tab.isAgg at e
  split at e
  · rename_i hd; cases e; simp [isAgg, run_und hT hd]
  · rename_i hd; cases e; simp [isAgg, run_und hT hd]
  · rename_i d h1 h2 hd
    cases e
    simp only [isAgg, Sem.run_bind, run_und hT hd, Result.andThen_ok]
    cases d with
    | struct fs => exact (h1 fs rfl).elim
    | array n el => exact (h2 n el rfl).elim
    | _ => rfl
  · cases e
theorem run_zero {t : TypeId} {z : AVal} (e : T.zero t = some z) (w : World) : ∃ v, (zeroValue t).run P w = .ok v w ∧ z = absV v := by
  unfold Tab.zero at e
  split at e
  · rename_i i hi
    split at e
    · rename_i v hv
      cases e
      exact ⟨v, by simp [zeroValue, typeInfo, hT.info _ _ hi, hv], rfl⟩
    · cases e
  · cases e
end

/-! ### Temporaries -/
structure TRel (D : Keep) (r : Ren) (t : Tree AVal) (n : Nat) (a : Act) : Prop where
  size : a.tmps.size = n
  at_ : ∀ i v, t.get i = some v → VRel r v (a.tmps.getD i undef)
  calm : D.calm a

def GlobOk (T : Tab) (r : Ren) : Prop := ∀ g, T.glob g = true → ∃ B, r.at_ g = some B ∧ B.cb = g ∧ B.base = 0
theorem GlobOk.mono {T : Tab} {r r' : Ren} (h : GlobOk T r) (hle : r.le r') : GlobOk T r' := fun g e =>
  let ⟨B, h1, h2, h3⟩ := h g e; ⟨B, hle _ _ h1, h2, h3⟩
theorem TRel.mono {r r' : Ren} {t : Tree AVal} {n : Nat} {a : Act} (h : TRel D r t n a) (hle : r.le r') : TRel D r' t n a :=
  ⟨h.size, fun i v e => (h.at_ i v e).mono hle, h.calm⟩

theorem ev_rel {T : Tab} {r : Ren} {t : Tree AVal} {n : Nat} {a : Act} (hg : GlobOk T r) (ht : TRel D r t n a) (x : Operand) : VRel r (ev T t x) (a.eval x) := by
  cases x with
  | tmp i =>
    simp only [ev]
    cases h : t.get i with
    | none => exact .any _
    | some v => exact ht.at_ i v h
  | const v => exact absV_rel r v
  | global g =>
    simp only [ev]
    cases h : T.glob g with
    | false => exact .any _
    | true =>
      obtain ⟨B, h1, h2, h3⟩ := hg g h
      have := VRel.ptr (r := r) g 0 B h1
      rw [h2, h3] at this
      exact this
  | func f => exact .func _ [] [] #[] #[] rfl rfl (fun i v v' h => by simp at h) (fun i v v' h => by simp at h)

theorem evList_rel {T : Tab} {r : Ren} {t : Tree AVal} {n : Nat} {a : Act} (hg : GlobOk T r) (ht : TRel D r t n a) (xs : Array Operand) :
    VsRel r (evList T t xs) (xs.map a.eval).toList := by
  refine ⟨by simp [evList], fun i v v' x y => ?_⟩
  simp only [evList, Array.toList_map, List.getElem?_map, Option.map_eq_some_iff] at x y
  obtain ⟨o, ho, rfl⟩ := x
  obtain ⟨o', ho', rfl⟩ := y
  rw [ho] at ho'
  cases ho'
  exact ev_rel hg ht o
end Ev
end Go.Proofs.YtfddpaljmihinaaGreatDoor
