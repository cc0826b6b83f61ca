/-
  Functions taken by a table of runs: calls whose arguments and answers hold no reference, from whatever memory. (Conditions: the runs.)
-/
import Derived.Test.YtfddpaljmihinaaGreatDoorEvSeatS
import Derived.Test.YtfddpaljmihinaaGreatDoorEvBegin
namespace Go.Proofs.YtfddpaljmihinaaGreatDoor
namespace Ev
open Go
noncomputable section

def flatF : Nat → AVal → Bool
  | 0, _ => false
  | n + 1, v => match v with
    | .bool _ => true
    | .int _ _ => true
    | .str _ => true
    | .nptr => true
    | .nslice => true
    | .nmap => true
    | .nfunc => true
    | .niface => true
    | .agg cs => cs.all (flatF n)
    | .tuple cs => cs.all (flatF n)
    | _ => false

theorem flatF_rel {r r' : Ren} : ∀ (n : Nat) {v : AVal} {v' : Value}, flatF n v = true → VRel r v v' → VRel r' v v' := by
  intro n
  induction n with
  | zero => intro v v' h; cases h
  | succ n ih =>
    intro v v' hf h
    cases h with
    | bool b => exact .bool b
    | int k n => exact .int k n
    | str s l h => exact .str s l h
    | nptr => exact .nptr
    | nslice => exact .nslice
    | nmap => exact .nmap
    | nfunc => exact .nfunc
    | niface => exact .niface
    | agg cs cs' hl hh => exact .agg cs cs' hl fun i u u' e1 e2 => ih (List.all_eq_true.1 hf u (List.mem_of_getElem? e1)) (hh i u u' e1 e2)
    | tuple cs cs' hl hh => exact .tuple cs cs' hl fun i u u' e1 e2 => ih (List.all_eq_true.1 hf u (List.mem_of_getElem? e1)) (hh i u u' e1 e2)
    | _ => cases hf

/-- A memory that holds MaxLen and nothing else. -/
def smallMem (z : Int) : AMem := ⟨8, Tree.leaf.put 0 (.cells 3 [.int .i64 z] true 0 false)⟩

def hasMax (m : AMem) : Option Int :=
  match m.get 0 with
  | some (.cells t [.int .i64 z] true 0 false) => match Nat.beq t 3 with
    | true => some z
    | false => none
  | _ => none

theorem hasMax_spec {m : AMem} {z : Int} (h : hasMax m = some z) : m.get 0 = some (.cells 3 [.int .i64 z] true 0 false) := by
  unfold hasMax at h
  split at h
  · rename_i t z' hg
    split at h
    · rename_i ht
      cases h
      rw [Nat.eq_of_beq_eq_true ht] at hg
      exact hg
    · cases h
  · cases h

theorem small_get {z : Int} {b : Nat} {k : ABlk} (h : (smallMem z).get b = some k) : b = 0 ∧ k = .cells 3 [.int .i64 z] true 0 false := by
  simp only [smallMem, AMem.get, Tree.get_put, Tree.get_leaf] at h
  split at h
  · rename_i c; cases h; exact ⟨c.symm, rfl⟩
  · cases h

theorem small_ro {z : Int} : ∀ b k, (smallMem z).get b = some k → k.writable = false := by
  intro b k h
  rw [(small_get h).2]
  rfl

def Ren.low (r : Ren) : Ren := ⟨fun b => if b < 8 then r.at_ b else none⟩

theorem small_rel {r : Ren} {m : AMem} {w : World} {z : Int} (hm : MemRel r m.next m.get w) (h : m.get 0 = some (.cells 3 [.int .i64 z] true 0 false)) : MemRel r.low (smallMem z).next (smallMem z).get w := by
  have low : ∀ b B, r.low.at_ b = some B → b < 8 ∧ r.at_ b = some B := by
    intro b B e
    simp only [Ren.low] at e
    split at e
    · rename_i c; exact ⟨c, e⟩
    · cases e
  refine ⟨fun b B e => (low b B e).1, fun b B e => hm.inw b B (low b B e).2, fun b k e => ?_, fun b1 k1 b2 k2 B1 B2 e1 e2 _ _ _ _ => ?_, fun b B e vs ro frz e1 _ => ?_⟩
  · obtain ⟨rfl, rfl⟩ := small_get e
    obtain ⟨B, hB, c, fr, h1, h2, h3, h4, h5⟩ := hm.blk 0 _ h
    refine ⟨B, by simp [Ren.low, hB], c, fr, h1, h2, h3, ⟨h4.len, fun i v v' a b => ?_⟩, h5⟩
    have := h4.at_ i v v' a b
    cases i with
    | zero => cases a; rw [this.int_inv]; exact .int _ _
    | succ i => simp at a
  · rw [(small_get e1).1, (small_get e2).1]
  · have := (small_get e1).2
    cases this

def rowFor (args : List AVal) : List (List AVal × AVal) → Option AVal
  | [] => none
  | x :: rest => match sameL (sameF 100) args x.1 with
    | true => some x.2
    | false => rowFor args rest

theorem rowFor_mem {args : List AVal} {v : AVal} : ∀ {l : List (List AVal × AVal)}, rowFor args l = some v → (args, v) ∈ l := by
  intro l
  induction l with
  | nil => intro h; cases h
  | cons x rest ih =>
    intro h
    simp only [rowFor] at h
    split at h
    · rename_i hs
      cases h
      rw [sameL_eq (fun a b => sameF_eq 100) hs]
      exact List.mem_cons_self
    · exact List.mem_cons_of_mem _ (ih h)

def runIs (v : AVal) : Out AVal → Bool
  | .ok u _ => match flatF 20 v with
    | true => sameF 100 u v
    | false => false
  | _ => false

theorem runIs_spec {v : AVal} {out : Out AVal} (h : runIs v out = true) : flatF 20 v = true ∧ ∃ m', out = .ok v m' := by
  unfold runIs at h
  split at h
  · rename_i u m'
    split at h
    · rename_i hf
      exact ⟨hf, m', by rw [sameF_eq 100 h]⟩
    · cases h
  · cases h

/-- By the table, else as ever. -/
def memoF (table : List (List AVal × AVal)) (F : List AVal → AMem → Out AVal) (args : List AVal) (m : AMem) : Out AVal :=
  match args.all (flatF 20), rowFor args table, hasMax m with
  | true, some v, some _ => .ok v m
  | _, _, _ => F args m

theorem memo_ok {T : Tab} {P : Program} {f : FuncId} {F : List AVal → AMem → Out AVal} {table : List (List AVal × AVal)} (hglob : ∀ g, T.glob g = true → g < 8) (hF : CallOk T P f F)
    (hrun : ∀ (z : Int) (x : List AVal × AVal), x ∈ table → runIs x.2 (F x.1 (smallMem z)) = true) : CallOk T P f (memoF table F) := by
  intro r w m args args' hg hm ha hgood
  unfold memoF at hgood ⊢
  split at hgood
  · rename_i v z hfa hv hz
    have h0 := hasMax_spec hz
    obtain ⟨hfl, m', hout⟩ := runIs_spec (hrun z _ (rowFor_mem hv))
    have hg8 : GlobOk T r.low := fun g e => by
      obtain ⟨B, h1, h2⟩ := hg g e
      exact ⟨B, by simp only [Ren.low]; rw [if_pos (hglob g e)]; exact h1, h2⟩
    have ha8 : VsRel r.low args args'.toList := ⟨ha.len, fun i u u' e1 e2 => flatF_rel 20 (List.all_eq_true.1 hfa u (List.mem_of_getElem? e1)) (ha.at_ i u u' e1 e2)⟩
    have hc := hF r.low w (smallMem z) args args' hg8 (small_rel hm h0) ha8 (by rw [hout]; trivial)
    rw [hout] at hc
    have conv : ∀ en w', Post r.low (smallMem z) w (.ok v m') en w' → Post r m w (.ok v m) en w' := by
      intro en w' ⟨r', v', e, hv', hst⟩
      exact ⟨r, v', e, flatF_rel 20 hfl hv', Step.below hm (below_of_step hst small_ro)⟩
    rcases hc with ⟨v', w', h1, h2⟩ | ⟨h1, h2⟩
    · exact .inl ⟨v', w', h1, conv _ _ h2⟩
    · exact .inr ⟨h1, h2.mono fun en w' h => conv en w' h⟩
  · exact hF r w m args args' hg hm ha hgood

theorem globs_lt {specs : Nat → Option (List AVal → AMem → Out AVal)} : ∀ g, (tab specs globs).glob g = true → g < 8 := fun _ e => Nat.lt_succ_of_le (Nat.le_of_ble_eq_true e)
end
end Ev
end Go.Proofs.YtfddpaljmihinaaGreatDoor
