/-
  An operation of the evaluator looks at its operands alone, and a reading one at the memory that it finds. (Conditions: none.)
-/
import Derived.Test.YtfddpaljmihinaaGreatDoorEvCode
import Derived.Orders
namespace Go.Proofs.YtfddpaljmihinaaGreatDoor
namespace Ev
open Go

def Agree (T : Tab) (t t' : Tree AVal) (xs : Array Operand) : Prop := ∀ x ∈ xs, ev T t x = ev T t' x

section
variable {T : Tab} {t t' : Tree AVal}

theorem Agree.list {xs : Array Operand} (h : Agree T t t' xs) : evList T t xs = evList T t' xs := by
  unfold evList
  exact List.map_congr_left fun x hx => h x (by simpa using hx)

theorem parts_congr {ps : Array (Nat × Operand)} (h : ∀ x ∈ ps.map (·.2), ev T t x = ev T t' x) :
    (ps.toList.map fun p => (p.1, ev T t p.2)) = (ps.toList.map fun p => (p.1, ev T t' p.2)) :=
  List.map_congr_left fun p hp => by rw [h p.2 (Array.mem_map.2 ⟨p, by simpa using hp, rfl⟩)]

theorem evP_congr {o : Op} (h : Agree T t t' o.operands) : evP T t o = evP T t' o := by
  unfold Agree at h
  cases o <;> simp only [Op.operands] at h <;> simp only [evP]
  case move x => rw [h x (by simp)]
  case assign x => rw [h x (by simp)]
  case pick c a b => rw [h c (by simp), h a (by simp), h b (by simp)]
  case nilCheck x => rw [h x (by simp)]
  case binOp op xt x y yt => rw [h x (by simp), h y (by simp)]
  case unOp op xt x => rw [h x (by simp)]
  case convert s d x => rw [h x (by simp)]
  case makeInterface xt x => rw [h x (by simp)]
  case makeFunc fn f c => rw [Agree.list (xs := f) fun x hx => h x (by simp [hx]), Agree.list (xs := c) fun x hx => h x (by simp [hx])]
  case slice xt x lo hi mx => cases lo <;> cases hi <;> cases mx <;> simp_all
  case fieldAddr s x f => rw [h x (by simp)]
  case field s x f => rw [h x (by simp)]
  case indexAddr xt x i => rw [h x (by simp), h i (by simp)]
  case index xt x i => rw [h x (by simp), h i (by simp)]
  case typeAssert x xt at_ ok => rw [h x (by simp)]
  case extract x i => rw [h x (by simp)]
  case build u ps => rw [parts_congr (ps := ps) (fun x hx => h x (by simpa using hx))]
  case call c =>
    have := Agree.list (T := T) (t := t) (t' := t') (xs := c.args) fun x hx => h x (by simp [Call.operands, hx])
    rw [this]

theorem evR_congr {o : Op} {g : Nat → Option ABlk} (h : Agree T t t' o.operands) : evR T t g o = evR T t' g o := by
  unfold Agree at h
  cases o <;> simp only [Op.operands] at h <;> simp only [evR]
  case load u x => rw [h x (by simp)]
  case lookup mt x k ok => rw [h x (by simp), h k (by simp)]
  case slice xt x lo hi mx => cases lo <;> cases hi <;> cases mx <;> simp_all
  case convert s d x => rw [h x (by simp)]
  case call c =>
    have := Agree.list (T := T) (t := t) (t' := t') (xs := c.args) fun x hx => h x (by simp [Call.operands, hx])
    rw [this]

theorem evA_congr {o : Op} {id : Nat} (h : Agree T t t' o.operands) : evA T t id o = evA T t' id o := by
  unfold Agree at h
  cases o <;> simp only [Op.operands] at h <;> simp only [evA]
  case box e x => rw [h x (by simp)]
  case buildSlice st n ps => rw [parts_congr (ps := ps) (fun x hx => h x (by simpa using hx))]
  case makeMap mt r => cases r <;> simp_all
  case makeSlice st l c => rw [h l (by simp), h c (by simp)]
  case convert s d x => rw [h x (by simp)]
  case range xt x => rw [h x (by simp)]

theorem evW_congr {o : Op} {m : AMem} (h : Agree T t t' o.operands) : evW T t m o = evW T t' m o := by
  unfold Agree at h
  cases o <;> simp only [Op.operands] at h <;> simp only [evW]
  case store u x y => rw [h x (by simp), h y (by simp)]
  case mapUpdate mt x k y => rw [h x (by simp), h k (by simp), h y (by simp)]
  case next it s => rw [h it (by simp)]
  case panic x => rw [h x (by simp)]
  case call c =>
    have := Agree.list (T := T) (t := t) (t' := t') (xs := c.args) fun x hx => h x (by simp [Call.operands, hx])
    rw [this]
    cases hc : c.callee with
    | value f => simp only [h f (by simp [Call.operands, hc])]
    | invoke x m => rfl
    | builtin b => cases b <;> rfl

theorem evOne_congr {callF : FuncId → List AVal → AMem → Out AVal} {o : Op} {m : AMem} (h : Agree T t t' o.operands) : evOne T callF t m o = evOne T callF t' m o := by
  unfold evOne
  rw [evP_congr h, evR_congr h, evA_congr h, evW_congr h]

/-! More memory, the same reading. -/
def Sub (g g' : Nat → Option ABlk) : Prop := ∀ b k, g b = some k → g' b = some k

theorem rowOf_mono {g g' : Nat → Option ABlk} (hs : Sub g g') {b o n : Nat} {cs : List AVal} (h : rowOf g b o n = some cs) : rowOf g' b o n = some cs := by
  unfold rowOf at h ⊢
  split at h
  · rename_i e vs ro frz wh hg
    rw [hs b _ hg]
    exact h
  · cases h

theorem loadOp_mono {g g' : Nat → Option ABlk} (hs : Sub g g') {u : TypeId} {y v : AVal} (h : loadOp T g u y = some v) : loadOp T g' u y = some v := by
  revert h
  unfold loadOp
  cases y with
  | ptr b o =>
    cases T.isAgg u with
    | none => nofun
    | some a =>
      cases a with
      | true =>
        cases T.size u with
        | none => nofun
        | some n =>
          intro h
          cases hr : rowOf g b o n with
          | none => simp [hr] at h
          | some cs =>
            simp only [rowOf_mono hs hr]
            simp only [hr] at h
            exact h
      | false =>
        cases hg : g b with
        | none => simp [hg]
        | some k => intro h; simp only [hs _ _ hg]; simp only [hg] at h; exact h
  | _ => nofun

theorem entriesOf_mono {g g' : Nat → Option ABlk} (hs : Sub g g') {y : AVal} {es} (h : entriesOf g y = some es) : entriesOf g' y = some es := by
  revert h
  unfold entriesOf
  cases y with
  | nmap => exact id
  | map b =>
    cases hg : g b with
    | none => simp [hg]
    | some k => intro h; simp only [hs _ _ hg]; simp only [hg] at h; exact h
  | _ => nofun

theorem lookupOp_mono {g g' : Nat → Option ABlk} (hs : Sub g g') {mt : TypeId} {y k v : AVal} {ok : Bool} (h : lookupOp T g mt y k ok = some v) : lookupOp T g' mt y k ok = some v := by
  cases he : entriesOf g y with
  | some es =>
    have he' := entriesOf_mono hs he
    revert h
    unfold lookupOp
    rw [he, he']
    exact id
  | none =>
    exfalso
    revert h
    unfold lookupOp
    rw [he]
    split
    · split <;> nofun
    · nofun

theorem sliceArr_mono {g g' : Nat → Option ABlk} (hs : Sub g g') {mt : TypeId} {y v : AVal} {lo hi mx} (h : sliceArr T g mt y lo hi mx = some v) : sliceArr T g' mt y lo hi mx = some v := by
  revert h
  unfold sliceArr
  cases hu : T.und mt with
  | none => nofun
  | some d =>
    cases d with
    | array n e =>
      cases y with
      | ptr b o =>
        cases hg : g b with
        | some k => simp only [hg, hs _ _ hg]; exact id
        | none => intro h; exfalso; cases hz : T.size e <;> simp [hg, hz] at h
      | _ => nofun
    | _ => nofun

theorem unsafeConv_mono {g g' : Nat → Option ABlk} (hs : Sub g g') {s d : TypeId} {y v : AVal} (h : unsafeConv T g s d y = some v) : unsafeConv T g' s d y = some v := by
  cases y with
  | ptr b o =>
    cases hg : g b with
    | some k =>
      have hg' := hs _ _ hg
      revert h
      unfold unsafeConv
      simp only [hg, hg']
      exact id
    | none =>
      exfalso
      revert h
      unfold unsafeConv
      simp only [hg]
      split
      · nofun
      · nofun
      · nofun
  | _ =>
    revert h
    unfold unsafeConv
    exact id

theorem evR_mono {g g' : Nat → Option ABlk} (hs : Sub g g') {o : Op} {v : AVal} (h : evR T t g o = some v) : evR T t g' o = some v := by
  cases o
  case load u x => exact loadOp_mono hs h
  case lookup mt x k ok => exact lookupOp_mono hs h
  case slice xt x lo hi mx => exact sliceArr_mono hs h
  case convert s d x =>
    revert h
    simp only [evR]
    split
    · rename_i e h1 h2
      split
      · exact id
      · rename_i b off len cap h3 h4
        cases hr : rowOf g b off len with
        | none => nofun
        | some cs => simp only [rowOf_mono hs hr]; exact id
      · nofun
    · exact unsafeConv_mono hs
  case call c =>
    revert h
    simp only [evR]
    split
    · split
      · split
        · rename_i b _ _ _ _ _ _ _ _ _ _
          cases hg : g b with
          | none => nofun
          | some k => simp only [hs _ _ hg]; exact id
        · nofun
      · nofun
    · nofun
  all_goals cases h
end
end Ev
end Go.Proofs.YtfddpaljmihinaaGreatDoor
