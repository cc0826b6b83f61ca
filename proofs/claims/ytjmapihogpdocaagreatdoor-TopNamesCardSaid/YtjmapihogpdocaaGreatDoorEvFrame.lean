/-
  Tables of calls with memory, name by name: a call whose arguments and whose part of the memory stand in a table is answered by it, where the kernel has run it in that part alone. (Conditions: none beyond what each theorem asks.)
-/
import Derived.Test.YtjmapihogpdocaaGreatDoorEvC
/-! ## EvFrame -/
namespace Go.Proofs.YtjmapihogpdocaaGreatDoor
namespace Ev
open Go
noncomputable section

/-- A call: its arguments, the names' next, the part of the memory that it needs; its answer, the names' next behind it, what it leaves. -/
structure Fr where
  args : List AVal
  next : Nat
  pre : List (Nat × ABlk)
  v : AVal
  last : Nat
  post : List (Nat × ABlk)

def maxBlk (z : Int) : ABlk := .cells 3 [.int .i64 z] true 0 false

def putAll : List (Nat × ABlk) → Tree ABlk → Tree ABlk
  | [], t => t
  | x :: r, t => putAll r (t.put x.1 x.2)
def killAll : List (Nat × ABlk) → Tree ABlk → Tree ABlk
  | [], t => t
  | x :: r, t => killAll r (t.set x.1 none)

def Fr.mem (e : Fr) (z : Int) : AMem := ⟨e.next, putAll e.pre (Tree.leaf.put 0 (maxBlk z))⟩
def Fr.lay (e : Fr) (m : AMem) : AMem := ⟨e.last, putAll e.post (killAll e.pre m.tree)⟩

def sameNats : List Nat → List Nat → Bool
  | [], [] => true
  | a :: x, b :: y => match Nat.beq a b with
    | true => sameNats x y
    | false => false
  | _, _ => false
def sameEnts : List (AVal × AVal) → List (AVal × AVal) → Bool
  | [], [] => true
  | (a, b) :: x, (c, d) :: y => match sameF 100 a c, sameF 100 b d with
    | true, true => sameEnts x y
    | _, _ => false
  | _, _ => false
def sameO : Option Nat → Option Nat → Bool
  | none, none => true
  | some a, some b => Nat.beq a b
  | _, _ => false
def sameB : Bool → Bool → Bool
  | true, true => true
  | false, false => true
  | _, _ => false

theorem sameNats_eq : ∀ {a b : List Nat}, sameNats a b = true → a = b := by
  intro a
  induction a with
  | nil => intro b h; cases b with | nil => rfl | cons y b => cases h
  | cons x a ih =>
    intro b h
    cases b with
    | nil => cases h
    | cons y b =>
      simp only [sameNats] at h
      split at h
      · rename_i e; rw [Nat.eq_of_beq_eq_true e, ih h]
      · cases h
theorem sameEnts_eq : ∀ {a b : List (AVal × AVal)}, sameEnts a b = true → a = b := by
  intro a
  induction a with
  | nil => intro b h; cases b with | nil => rfl | cons y b => cases h
  | cons x a ih =>
    intro b h
    cases b with
    | nil => cases h
    | cons y b =>
      obtain ⟨x1, x2⟩ := x
      obtain ⟨y1, y2⟩ := y
      simp only [sameEnts] at h
      split at h
      · rename_i e1 e2; rw [sameF_eq 100 e1, sameF_eq 100 e2, ih h]
      · cases h
theorem sameO_eq {a b : Option Nat} (h : sameO a b = true) : a = b := by
  cases a <;> cases b <;> first | rfl | cases h | exact congrArg some (Nat.eq_of_beq_eq_true h)
theorem sameB_eq {a b : Bool} (h : sameB a b = true) : a = b := by
  cases a <;> cases b <;> first | rfl | cases h

def sameK (a b : ABlk) : Bool :=
  match a, b with
  | .cells e vs ro frz wh, .cells e' vs' ro' frz' wh' => match Nat.beq e e', sameB ro ro', Nat.beq frz frz', sameB wh wh', sameL (sameF 100) vs vs' with
    | true, true, true, true, true => true
    | _, _, _, _, _ => false
  | .map es bs ck, .map es' bs' ck' => match sameEnts es es', sameNats bs bs', Nat.beq ck ck' with
    | true, true, true => true
    | _, _, _ => false
  | .iter s p, .iter s' p' => match bytesEq s s', Nat.beq p p' with
    | true, true => true
    | _, _ => false
  | .miter o a s l, .miter o' a' s' l' => match sameO o o', Nat.beq a a', sameNats s s', Nat.beq l l' with
    | true, true, true, true => true
    | _, _, _, _ => false
  | .chan c u, .chan c' u' => match Nat.beq c c', sameL (sameF 100) u u' with
    | true, true => true
    | _, _ => false
  | _, _ => false

theorem bytes_same {a b : List UInt8} (h : bytesEq a b = true) : a = b := by
  rw [bytesEq_eq] at h
  exact eq_of_beq h

theorem sameK_eq {a b : ABlk} (h : sameK a b = true) : a = b := by
  unfold sameK at h
  split at h
  · split at h
    · rename_i e1 e2 e3 e4 e5
      rw [Nat.eq_of_beq_eq_true e1, sameB_eq e2, Nat.eq_of_beq_eq_true e3, sameB_eq e4, sameL_eq (fun a b => sameF_eq 100) e5]
    · cases h
  · split at h
    · rename_i e1 e2 e3
      rw [sameEnts_eq e1, sameNats_eq e2, Nat.eq_of_beq_eq_true e3]
    · cases h
  · split at h
    · rename_i e1 e2
      rw [bytes_same e1, Nat.eq_of_beq_eq_true e2]
    · cases h
  · split at h
    · rename_i e1 e2 e3 e4
      rw [sameO_eq e1, Nat.eq_of_beq_eq_true e2, sameNats_eq e3, Nat.eq_of_beq_eq_true e4]
    · cases h
  · split at h
    · rename_i e1 e2
      rw [Nat.eq_of_beq_eq_true e1, sameL_eq (fun a b => sameF_eq 100) e2]
    · cases h
  · cases h

def heldAll (m : AMem) : List (Nat × ABlk) → Bool
  | [] => true
  | x :: r => match m.get x.1 with
    | some k => match sameK k x.2 with
      | true => heldAll m r
      | false => false
    | none => false
theorem heldAll_spec {m : AMem} : ∀ {l : List (Nat × ABlk)}, heldAll m l = true → ∀ x ∈ l, m.get x.1 = some x.2 := by
  intro l
  induction l with
  | nil => intro _ x h; cases h
  | cons y l ih =>
    intro h x hx
    simp only [heldAll] at h
    split at h
    · rename_i k hk
      split at h
      · rename_i hs
        rcases List.mem_cons.1 hx with e | e
        · subst e; rw [hk, sameK_eq hs]
        · exact ih h x e
      · cases h
    · cases h

theorem putAll_get : ∀ {l : List (Nat × ABlk)} {t : Tree ABlk} {b : Nat} {k : ABlk}, (putAll l t).get b = some k → (b, k) ∈ l ∨ t.get b = some k := by
  intro l
  induction l with
  | nil => intro t b k h; exact .inr h
  | cons x l ih =>
    intro t b k h
    rcases ih h with e | e
    · exact .inl (List.mem_cons_of_mem _ e)
    · rw [Tree.get_put] at e
      split at e
      · rename_i c; cases e; subst c; exact .inl List.mem_cons_self
      · exact .inr e
theorem putAll_none : ∀ {l : List (Nat × ABlk)} {t : Tree ABlk} {b : Nat}, (∀ x ∈ l, x.1 ≠ b) → (putAll l t).get b = t.get b := by
  intro l
  induction l with
  | nil => intro t b _; rfl
  | cons x l ih =>
    intro t b h
    rw [putAll, ih (fun y hy => h y (List.mem_cons_of_mem _ hy)), Tree.get_put, if_neg (h x List.mem_cons_self)]
theorem killAll_get : ∀ {l : List (Nat × ABlk)} {t : Tree ABlk} {b : Nat} {k : ABlk}, (killAll l t).get b = some k → t.get b = some k ∧ ∀ x ∈ l, x.1 ≠ b := by
  intro l
  induction l with
  | nil => intro t b k h; exact ⟨h, fun x hx => by cases hx⟩
  | cons x l ih =>
    intro t b k h
    obtain ⟨h1, h2⟩ := ih h
    rw [Tree.get_set] at h1
    split at h1
    · cases h1
    · rename_i c
      refine ⟨h1, fun y hy => ?_⟩
      rcases List.mem_cons.1 hy with e | e
      · rw [e]; exact c
      · exact h2 y e

def topMax (m : AMem) : Option Int :=
  match m.get 0 with
  | some (.cells t [.int .i64 z] true 0 false) => match Nat.beq t 3 with
    | true => some z
    | false => none
  | _ => none
theorem topMax_spec {m : AMem} {z : Int} (h : topMax m = some z) : m.get 0 = some (maxBlk z) := by
  unfold topMax at h
  split at h
  · rename_i t z' hg
    split at h
    · rename_i ht
      cases h
      rw [Nat.eq_of_beq_eq_true ht] at hg
      exact hg
    · cases h
  · cases h

def Fr.fits (e : Fr) (args : List AVal) (m : AMem) : Bool :=
  match Nat.beq m.next e.next with
  | false => false
  | true => match sameL (sameF 100) args e.args with
    | false => false
    | true => heldAll m e.pre
def frFor (args : List AVal) (m : AMem) : List Fr → Option Fr
  | [] => none
  | e :: r => match e.fits args m with
    | true => some e
    | false => frFor args m r
theorem frFor_spec {args : List AVal} {m : AMem} {e : Fr} : ∀ {l : List Fr}, frFor args m l = some e → e ∈ l ∧ m.next = e.next ∧ args = e.args ∧ heldAll m e.pre = true := by
  intro l
  induction l with
  | nil => intro h; cases h
  | cons x l ih =>
    intro h
    simp only [frFor] at h
    split at h
    · rename_i hf
      cases h
      unfold Fr.fits at hf
      split at hf
      · cases hf
      · rename_i hn
        split at hf
        · cases hf
        · rename_i ha
          exact ⟨List.mem_cons_self, Nat.eq_of_beq_eq_true hn, sameL_eq (fun a b => sameF_eq 100) ha, hf⟩
    · obtain ⟨h1, h2⟩ := ih h
      exact ⟨List.mem_cons_of_mem _ h1, h2⟩

/-- By the table, else as ever. -/
def frameF (table : List Fr) (F : List AVal → AMem → Out AVal) (args : List AVal) (m : AMem) : Out AVal :=
  match topMax m with
  | some _ => match frFor args m table with
    | some e => .ok e.v (e.lay m)
    | none => F args m
  | none => F args m

/-- The kernel's run of an entry: it tells what MaxLen holds behind it. -/
def frRun (F : List AVal → AMem → Out AVal) (e : Fr) (z : Int) : Option Int :=
  match F e.args (e.mem z) with
  | .ok v m => match sameF 100 v e.v && Nat.beq m.next e.last && heldAll m e.post with
    | true => topMax m
    | false => none
  | _ => none
theorem frRun_spec {F : List AVal → AMem → Out AVal} {e : Fr} {z : Int} (h : frRun F e z = some z) : ∃ m, F e.args (e.mem z) = .ok e.v m ∧ m.next = e.last ∧ (∀ x ∈ e.post, m.get x.1 = some x.2) ∧ m.get 0 = some (maxBlk z) := by
  unfold frRun at h
  split at h
  · rename_i v m hm
    split at h
    · rename_i hc
      simp only [Bool.and_eq_true] at hc
      exact ⟨m, by rw [hm, sameF_eq 100 hc.1.1], Nat.eq_of_beq_eq_true hc.1.2, heldAll_spec hc.2, topMax_spec h⟩
    · cases h
  · cases h

theorem frame_ok {T : Tab} {P : Program} {f : FuncId} {F : List AVal → AMem → Out AVal} {table : List Fr} (hF : CallOk T P f F) (hrun : ∀ (z : Int) (e : Fr), e ∈ table → frRun F e z = some z) : CallOk T P f (frameF table F) := by
  intro r w m args args' hg hm ha hgood
  unfold frameF at hgood ⊢
  split at hgood
  · rename_i z hz
    split at hgood
    · rename_i e he
      obtain ⟨hmem, hn, rfl, hpre⟩ := frFor_spec he
      have h0 := topMax_spec hz
      have hp := heldAll_spec hpre
      obtain ⟨m', hout, hl, hpost, h0'⟩ := frRun_spec (hrun z e hmem)
      have sub : ∀ b k, (e.mem z).get b = some k → m.get b = some k := by
        intro b k hb
        rcases putAll_get hb with h1 | h1
        · exact hp _ h1
        · rw [Tree.get_put] at h1
          split at h1
          · rename_i c; cases h1; subst c; exact h0
          · cases h1
      have hm2 : MemRel r (e.mem z).next (e.mem z).get w := by
        have := hm.sub sub
        rw [hn] at this
        exact this
      have hc := hF r w (e.mem z) e.args args' hg hm2 ha (by rw [hout]; trivial)
      rw [hout] at hc
      have conv : ∀ en w', Post r (e.mem z) w (.ok e.v m') en w' → Post r m w (.ok e.v (e.lay m)) en w' := by
        intro en w' ⟨r', v', e1, hv', hst⟩
        refine ⟨r', v', e1, hv', ?_⟩
        have hst' : Step r m.next (e.mem z).get w r' (e.lay m).next m'.get w' := by
          show Step r m.next (e.mem z).get w r' e.last m'.get w'
          rw [hn, ← hl]
          exact hst
        refine Step.frame hm sub hst' fun b k hb => ?_
        rcases putAll_get hb with h1 | h1
        · exact .inl (hpost _ h1)
        · obtain ⟨h2, h3⟩ := killAll_get h1
          by_cases c : b = 0
          · subst c
            left
            rw [h0', ← h0]
            exact h2
          · right
            refine ⟨?_, h2⟩
            show (putAll e.pre (Tree.leaf.put 0 (maxBlk z))).get b = none
            rw [putAll_none h3, Tree.get_put, if_neg (fun h => c h.symm)]
            rfl
      rcases hc with ⟨v', w', h1, h2⟩ | ⟨h1, h2⟩
      · exact .inl ⟨v', w', h1, conv _ _ h2⟩
      · exact .inr ⟨h1, h2.mono fun en w' h => conv en w' h⟩
    · exact hF r w m args args' hg hm ha hgood
  · exact hF r w m args args' hg hm ha hgood
end
end Ev
end Go.Proofs.YtjmapihogpdocaaGreatDoor
