/-
  The abstract memory against the machine's; what reads it. (Conditions: the tables tell of the program what is so; the memories are related.)
-/
import Derived.Test.YtfddpaljmihinaaGreatDoorEvPure5
import Derived.MapKept
namespace Go.Proofs.YtfddpaljmihinaaGreatDoor
namespace Ev
open Go

def EntRel (r : Ren) (es : List (AVal × AVal)) (es' : List MapEntry) : Prop :=
  es'.length = es.length ∧ ∀ (i : Nat) e e', es[i]? = some e → es'[i]? = some e' → VRel r e.1 e'.key ∧ VRel r e.2 e'.val

def BlkRel (r : Ren) : ABlk → Blk → World → Prop
  | .cells e vs ro frz _, B, w => ∃ c fr, w.heap[B.cb]? = some (.cells c e fr) ∧ c.size = B.size ∧ B.base + vs.length ≤ c.size ∧
      VsRel r vs ((c.toList.drop B.base).take vs.length) ∧ (ro = false → ∀ j, B.base + frz ≤ j → j < c.size → ¬ (fr.1 ≤ j ∧ j < fr.2))
  | .map es, B, w => ∃ es' clock, w.heap[B.cb]? = some (.map es' clock) ∧ EntRel r es es'.toList ∧ MapKept.Stamped es' clock
  | .iter s pos, B, w => B.base = 0 ∧ ∃ s' : ByteArray, w.heap[B.cb]? = some (.stringIter s' pos) ∧ s'.data.toList = s

theorem BlkRel.mono {r r' : Ren} (hle : r.le r') {k : ABlk} {B : Blk} {w w' : World} (h : BlkRel r k B w) (hw : w'.heap[B.cb]? = w.heap[B.cb]?) : BlkRel r' k B w' := by
  cases k with
  | cells e vs ro frz wh =>
    obtain ⟨c, fr, h1, h2, h3, h4, h5⟩ := h
    exact ⟨c, fr, by rw [hw, h1], h2, h3, h4.mono hle, h5⟩
  | map es =>
    obtain ⟨es', clock, h1, ⟨h2, h3⟩, h4⟩ := h
    exact ⟨es', clock, by rw [hw, h1], ⟨h2, fun i e e' a b => ⟨(h3 i e e' a b).1.mono hle, (h3 i e e' a b).2.mono hle⟩⟩, h4⟩
  | iter s pos =>
    obtain ⟨h0, s', h1, h2⟩ := h
    exact ⟨h0, s', by rw [hw, h1], h2⟩

/-- Memory: 'next' is above every name; 'g' says what is alive. -/
structure MemRel (r : Ren) (next : Nat) (g : Nat → Option ABlk) (w : World) : Prop where
  fresh : ∀ b B, r.at_ b = some B → b < next
  inw : ∀ b B, r.at_ b = some B → B.cb < w.heap.size
  blk : ∀ b k, g b = some k → ∃ B, r.at_ b = some B ∧ BlkRel r k B w
  inj : ∀ b1 k1 b2 k2 B1 B2, g b1 = some k1 → g b2 = some k2 → r.at_ b1 = some B1 → r.at_ b2 = some B2 → k1.writable = true → B1.cb = B2.cb → b1 = b2
  whole : ∀ b B e vs ro frz, g b = some (.cells e vs ro frz true) → r.at_ b = some B → B.base = 0 ∧ B.size = vs.length

section
variable {P : Program} {r : Ren} {next : Nat} {g : Nat → Option ABlk} {w : World}

theorem cell_of {B : Blk} {c : Array Value} {e : TypeId} {fr : Nat × Nat} (h : w.heap[B.cb]? = some (.cells c e fr)) (o : Nat) :
    w.cell? ⟨B.cb, o, none⟩ = c[o]? := by
  simp [World.cell?, h]

theorem run_loadCellsFrom : ∀ (vs : List Value) (a : Addr) (i : Nat) (acc : Array Value),
    (∀ (j : Nat) v, vs[j]? = some v → w.cell? (a.add (i + j)) = some v) → (loadCellsFrom a i vs.length acc).run P w = .ok (acc ++ vs.toArray) w := by
  intro vs
  induction vs with
  | nil => intro a i acc h; simp [loadCellsFrom]
  | cons v vs ih =>
    intro a i acc h
    have h0 := h 0 v rfl
    rw [Nat.add_zero] at h0
    simp only [List.length_cons, loadCellsFrom, Sem.run_bind, run_load, h0, Result.andThen_ok]
    rw [ih a (i + 1) (acc.push v) (fun j u e => by have := h (j + 1) u (by simpa using e); rw [show i + 1 + j = i + (j + 1) from by omega]; exact this)]
    congr 1
    apply Array.toList_inj.1
    simp

theorem run_loadCells (vs : List Value) (a : Addr) (n : Nat) (hn : vs.length = n) (h : ∀ (j : Nat) v, vs[j]? = some v → w.cell? (a.add j) = some v) :
    (loadCells a n).run P w = .ok vs.toArray w := by
  subst hn
  unfold loadCells
  rw [run_loadCellsFrom vs a 0 #[] (fun j v e => by rw [Nat.zero_add]; exact h j v e)]
  simp

/-- A row of cells: what the abstract memory says of it the machine reads. -/
theorem row_ok (hm : MemRel r next g w) {b o n : Nat} {cs : List AVal} {B : Blk} (hB : r.at_ b = some B) (h : rowOf g b o n = some cs) :
    ∃ vs : List Value, VsRel r cs vs ∧ cs.length = n ∧ ∀ w1 : World, w1.heap = w.heap → (loadCells ⟨B.cb, B.base + o, none⟩ n).run P w1 = .ok vs.toArray w1 := by
  unfold rowOf at h
  split at h
  · rename_i e vs ro frz wh hg
    split at h
    · rename_i hl
      cases h
      have hl' := Nat.le_of_ble_eq_true hl
      obtain ⟨B', hB', c, fr, h1, h2, h3, h4, h5⟩ := hm.blk _ _ hg
      rw [hB] at hB'
      cases hB'
      have hlen : ((vs.drop o).take n).length = n := by simp; omega
      refine ⟨(((c.toList.drop B.base).take vs.length).drop o).take n, (h4.drop o).take n, hlen, fun w1 hw1 => ?_⟩
      rw [← hw1] at h1
      refine run_loadCells _ _ _ (by simp; omega) (fun j v e => ?_)
      rw [Addr_add, cell_of h1]
      rw [List.getElem?_take] at e
      split at e
      · rw [List.getElem?_drop, List.getElem?_take] at e
        split at e
        · rw [List.getElem?_drop] at e
          rw [← Array.getElem?_toList, ← e]
          congr 1
          omega
        · cases e
      · cases e
    · cases h
  · cases h

variable {T : Tab} (hT : TabOk T P)

include hT in
theorem loadOp_ok (hm : MemRel r next g w) {t : TypeId} {x : AVal} {x' : Value} {v : AVal} (hx : VRel r x x') (h : loadOp T g t x = some v) :
    ∃ v', (Instr.loadAt t x').run P w = .ok v' w ∧ VRel r v v' := by
  unfold loadOp at h
  split at h
  · rename_i b o
    obtain ⟨B, hB, rfl⟩ := hx.ptr_inv
    split at h
    · rename_i hagg
      split at h
      · rename_i n hn
        cases hr : rowOf g b o n with
        | none => rw [hr] at h; cases h
        | some cs =>
          rw [hr] at h
          cases h
          obtain ⟨vs, h1, h2, h3⟩ := row_ok (P := P) hm hB hr
          exact ⟨.agg vs.toArray, by simp [Instr.loadAt, Instr.sureAddr, loadVar, run_isAgg hT hagg, run_size hT hn, h3 w rfl], .aggOf (by simpa using h1)⟩
      · cases h
    · rename_i hagg
      split at h
      · rename_i e vs ro frz wh hg
        obtain ⟨B', hB', c, fr, h1, h2, h3, h4, h5⟩ := hm.blk _ _ hg
        rw [hB] at hB'
        cases hB'
        obtain ⟨v', e1, hv⟩ := h4.get h
        have e2 : w.cell? ⟨B.cb, B.base + o, none⟩ = some v' := by
          rw [cell_of h1]
          rw [List.getElem?_take] at e1
          split at e1
          · rw [List.getElem?_drop] at e1
            rw [← Array.getElem?_toList, e1]
          · cases e1
        exact ⟨v', by simp [Instr.loadAt, Instr.sureAddr, loadVar, run_isAgg hT hagg, e2], hv⟩
      · cases h
    · cases h
  · cases h
end
end Ev
end Go.Proofs.YtfddpaljmihinaaGreatDoor
