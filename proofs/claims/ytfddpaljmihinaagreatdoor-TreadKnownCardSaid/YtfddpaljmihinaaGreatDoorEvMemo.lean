/-
  Functions taken by a table of runs: calls from the memory that a law begins with, whose answers hold no reference. (Conditions: the runs.)
-/
import Derived.Test.YtfddpaljmihinaaGreatDoorEvSeatT
import Derived.Test.YtfddpaljmihinaaGreatDoorEvBegin
namespace Go.Proofs.YtfddpaljmihinaaGreatDoor
namespace Ev
open Go

def flat : AVal → Bool
  | .bool _ => true
  | .int _ _ => true
  | .str _ => true
  | _ => false

theorem flat_rel {r r' : Ren} {v : AVal} {v' : Value} (hf : flat v = true) (h : VRel r v v') : VRel r' v v' := by
  cases h with
  | bool b => exact .bool b
  | int k n => exact .int k n
  | str s l h => exact .str s l h
  | _ => cases hf

/-- A law's first memory, without the tables. -/
noncomputable def smallMem (z : Int) : AMem := ⟨8, Tree.leaf.put 0 (.cells 3 [.int .i64 z] true 0 false)⟩

noncomputable def isBegin (m : AMem) : Option Int :=
  match Nat.beq m.next 8, m.get 0 with
  | true, some (.cells t [.int .i64 z] true 0 false) => match Nat.beq t 3 with
    | true => some z
    | false => none
  | _, _ => none

theorem isBegin_spec {m : AMem} {z : Int} (h : isBegin m = some z) : m.next = 8 ∧ ∀ b k, (smallMem z).get b = some k → m.get b = some k := by
  unfold isBegin at h
  split at h
  · rename_i t z' hn hg
    split at h
    · rename_i ht
      cases h
      have := Nat.eq_of_beq_eq_true ht
      subst this
      refine ⟨Nat.eq_of_beq_eq_true hn, fun b k e => ?_⟩
      simp only [smallMem, AMem.get, Tree.get_put, Tree.get_leaf] at e
      split at e
      · rename_i c; subst c; cases e; exact hg
      · cases e
    · cases h
  · cases h

theorem small_ro {z : Int} : ∀ b k, (smallMem z).get b = some k → k.writable = false := by
  intro b k h
  simp only [smallMem, AMem.get, Tree.get_put, Tree.get_leaf] at h
  split at h
  · cases h; rfl
  · cases h

def rowFor (args : List AVal) : List (List AVal × AVal) → Option AVal
  | [] => none
  | x :: rest => match sameL (sameF 100) args x.1 with
    | true => some x.2
    | false => rowFor args rest

theorem rowFor_mem {args : List AVal} {v : AVal} : ∀ {l : List (List AVal × AVal)}, rowFor args l = some v → (args, v) ∈ l := by
  intro l
  induction l with
  | nil => intro h; cases h
  | cons x rest ih =>
    intro h
    simp only [rowFor] at h
    split at h
    · rename_i hs
      cases h
      rw [sameL_eq (fun a b => sameF_eq 100) hs]
      exact List.mem_cons_self
    · exact List.mem_cons_of_mem _ (ih h)

def runIs (v : AVal) : Out AVal → Bool
  | .ok u _ => match flat v with
    | true => sameF 100 u v
    | false => false
  | _ => false

theorem runIs_spec {v : AVal} {out : Out AVal} (h : runIs v out = true) : flat v = true ∧ ∃ m', out = .ok v m' := by
  unfold runIs at h
  split at h
  · rename_i u m'
    split at h
    · rename_i hf
      exact ⟨hf, m', by rw [sameF_eq 100 h]⟩
    · cases h
  · cases h

noncomputable def memoF (table : List (List AVal × AVal)) (args : List AVal) (m : AMem) : Out AVal :=
  match isBegin m with
  | none => .fail "memo"
  | some _ => match rowFor args table with
    | some v => .ok v m
    | none => .fail "memo"

theorem memo_ok {T : Tab} {P : Program} {f : FuncId} {F : List AVal → AMem → Out AVal} {table : List (List AVal × AVal)} (hF : CallOk T P f F)
    (hrun : ∀ (z : Int) (x : List AVal × AVal), x ∈ table → runIs x.2 (F x.1 (smallMem z)) = true) : CallOk T P f (memoF table) := by
  intro r w m args args' hg hm ha hgood
  unfold memoF at hgood ⊢
  split at hgood
  · exact hgood.elim
  · rename_i z hz
    split at hgood
    · rename_i v hv
      obtain ⟨hn, hsub⟩ := isBegin_spec hz
      obtain ⟨hfl, m', hout⟩ := runIs_spec (hrun z _ (rowFor_mem hv))
      have hm8 : MemRel r (smallMem z).next (smallMem z).get w := by
        show MemRel r 8 (smallMem z).get w
        rw [← hn]
        exact hm.sub hsub
      have hc := hF r w (smallMem z) args args' hg hm8 ha (by rw [hout]; trivial)
      rw [hout] at hc
      have conv : ∀ en w', Post r (smallMem z) w (.ok v m') en w' → Post r m w (.ok v m) en w' := by
        intro en w' ⟨r', v', e, hv', hst⟩
        exact ⟨r, v', e, flat_rel hfl hv', Step.below hm (below_of_step hst small_ro)⟩
      rcases hc with ⟨v', w', h1, h2⟩ | ⟨h1, h2⟩
      · exact .inl ⟨v', w', h1, conv _ _ h2⟩
      · exact .inr ⟨h1, h2.mono fun en w' h => conv en w' h⟩
    · exact hgood.elim
end Ev
end Go.Proofs.YtfddpaljmihinaaGreatDoor
