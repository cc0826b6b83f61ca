/-
  Steps of the two memories beside one another; new blocks. (Conditions: the tables tell of the program what is so; the memories are related.)
-/
import Derived.Test.YtfddpaljmihinaaGreatDoorEvRead
namespace Go.Proofs.YtfddpaljmihinaaGreatDoor
namespace Ev
open Go

structure Step (r : Ren) (n : Nat) (g : Nat → Option ABlk) (w : World) (r' : Ren) (n' : Nat) (g' : Nat → Option ABlk) (w' : World) : Prop where
  le : r.le r'
  mem : MemRel r' n' g' w'
  next : n ≤ n'
  os : w'.os = w.os
  tape : w'.tape = w.tape
  output : w'.output = w.output
  size : w.heap.size ≤ w'.heap.size
  keep : ∀ cb, cb < w.heap.size → (∀ b k B, g b = some k → k.writable = true → r.at_ b = some B → B.cb ≠ cb) → w'.heap[cb]? = w.heap[cb]?
  own : ∀ b k B, g' b = some k → r'.at_ b = some B → w.heap.size ≤ B.cb ∨
    ∃ b0 k0 B0, g b0 = some k0 ∧ r.at_ b0 = some B0 ∧ B0.cb = B.cb ∧ (k.writable = true → k0.writable = true)
  new : ∀ b B, r'.at_ b = some B → r.at_ b = some B ∨ n ≤ b

theorem Step.trans {r r1 r2 : Ren} {n n1 n2 : Nat} {g g1 g2 : Nat → Option ABlk} {w w1 w2 : World} (h : Step r n g w r1 n1 g1 w1) (k : Step r1 n1 g1 w1 r2 n2 g2 w2) :
    Step r n g w r2 n2 g2 w2 where
  le := Ren.le_trans h.le k.le
  mem := k.mem
  next := Nat.le_trans h.next k.next
  os := k.os.trans h.os
  tape := k.tape.trans h.tape
  output := k.output.trans h.output
  size := Nat.le_trans h.size k.size
  keep := by
    intro cb hc hno
    rw [k.keep cb (Nat.lt_of_lt_of_le hc h.size) ?_]
    · exact h.keep cb hc hno
    · intro b x B hb hx hB e
      rcases h.own b x B hb hB with h1 | ⟨b0, k0, B0, h1, h2, h3, h4⟩
      · omega
      · exact hno b0 k0 B0 h1 (h4 hx) h2 (by rw [h3, e])
  own := by
    intro b x B hb hB
    rcases k.own b x B hb hB with h1 | ⟨b0, k0, B0, h1, h2, h3, h4⟩
    · left; exact Nat.le_trans h.size h1
    · rcases h.own b0 k0 B0 h1 h2 with z | ⟨b1, k1, B1, z1, z2, z3, z4⟩
      · left; rw [← h3]; exact z
      · right; exact ⟨b1, k1, B1, z1, z2, z3.trans h3, fun e => z4 (h4 e)⟩
  new := by
    intro b B hB
    rcases k.new b B hB with h1 | h1
    · exact h.new b B h1
    · right; exact Nat.le_trans h.next h1

/-- Nothing but draws. -/
theorem Step.same {r : Ren} {n n' : Nat} {g : Nat → Option ABlk} {w w' : World} (hm : MemRel r n g w) (hn : n ≤ n') (hh : w'.heap = w.heap) (ho : w'.os = w.os) (ht : w'.tape = w.tape) (hp : w'.output = w.output) :
    Step r n g w r n' g w' where
  le := r.le_refl
  mem := ⟨fun b B h => Nat.lt_of_lt_of_le (hm.fresh b B h) hn, fun b B h => by rw [hh]; exact hm.inw b B h,
    fun b k h => let ⟨B, h1, h2⟩ := hm.blk b k h; ⟨B, h1, h2.mono r.le_refl (by rw [hh])⟩, hm.inj, hm.whole⟩
  next := hn
  os := ho
  tape := ht
  output := hp
  size := by rw [hh]; exact Nat.le_refl _
  keep := fun cb _ _ => by rw [hh]
  own := fun b k B h hB => .inr ⟨b, k, B, h, hB, rfl, id⟩
  new := fun b B h => .inl h
theorem Step.refl {r : Ren} {n : Nat} {g : Nat → Option ABlk} {w : World} (hm : MemRel r n g w) : Step r n g w r n g w := .same hm (Nat.le_refl _) rfl rfl rfl rfl

/-! ### New blocks -/
def Ren.ext (r : Ren) (id : Nat) (B : Blk) : Ren := ⟨fun b => if b = id then some B else r.at_ b⟩
theorem Ren.ext_le {r : Ren} {id : Nat} {B : Blk} (h : r.at_ id = none) : r.le (r.ext id B) := by
  intro b B' hb
  simp only [Ren.ext]
  by_cases e : b = id
  · subst e; rw [h] at hb; cases hb
  · rw [if_neg e]; exact hb
theorem Ren.ext_same (r : Ren) (id : Nat) (B : Blk) : (r.ext id B).at_ id = some B := by simp [Ren.ext]

def upd (g : Nat → Option ABlk) (id : Nat) (k : ABlk) : Nat → Option ABlk := fun b => if b = id then some k else g b

structure Made (r : Ren) (id : Nat) (w : World) (k : ABlk) (v : AVal) (v' : Value) (w' : World) (B : Blk) : Prop where
  cb : B.cb = w.heap.size
  heap : ∃ o, w'.heap = w.heap.push o
  os : w'.os = w.os
  tape : w'.tape = w.tape
  output : w'.output = w.output
  blk : BlkRel (r.ext id B) k B w'
  val : VRel (r.ext id B) v v'
  whole : ∀ e vs ro frz, k = .cells e vs ro frz true → B.base = 0 ∧ B.size = vs.length

theorem Made.step {r : Ren} {id n n' : Nat} {g : Nat → Option ABlk} {w w' : World} {k : ABlk} {v : AVal} {v' : Value} {B : Blk} (h : Made r id w k v v' w' B) (hm : MemRel r n g w)
    (hid : r.at_ id = none) (hg : g id = none) (hn : n ≤ n') (hin : id < n') : r.le (r.ext id B) ∧ MemRel (r.ext id B) n' (upd g id k) w' := by
  obtain ⟨o, ho⟩ := h.heap
  have hle := Ren.ext_le (B := B) hid
  refine ⟨hle, ?_⟩
  have old : ∀ b B', b ≠ id → (r.ext id B).at_ b = some B' → r.at_ b = some B' := fun b B' e hb => by simpa [Ren.ext, e] using hb
  refine ⟨?_, ?_, ?_, ?_, ?_⟩
  · intro b B' hb
    by_cases e : b = id
    · omega
    · exact Nat.lt_of_lt_of_le (hm.fresh b B' (old b B' e hb)) hn
  · intro b B' hb
    rw [ho, Array.size_push]
    by_cases e : b = id
    · subst e; rw [Ren.ext_same] at hb; cases hb; rw [h.cb]; exact Nat.lt_succ_self _
    · exact Nat.lt_succ_of_lt (hm.inw b B' (old b B' e hb))
  · intro b k' hk
    simp only [upd] at hk
    by_cases e : b = id
    · subst e; rw [if_pos rfl] at hk; cases hk; exact ⟨B, Ren.ext_same r b B, h.blk⟩
    · rw [if_neg e] at hk
      obtain ⟨B', h1, h2⟩ := hm.blk b k' hk
      have hlt := hm.inw b B' h1
      exact ⟨B', hle b B' h1, h2.mono hle (by rw [ho, Array.getElem?_push, if_neg (by omega)])⟩
  · intro b1 k1 b2 k2 B1 B2 g1 g2 r1 r2 hw hc
    simp only [upd] at g1 g2
    by_cases e1 : b1 = id
    · by_cases e2 : b2 = id
      · rw [e1, e2]
      · have hlt := hm.inw b2 B2 (old b2 B2 e2 r2)
        rw [e1, Ren.ext_same] at r1
        cases r1
        rw [h.cb] at hc
        omega
    · by_cases e2 : b2 = id
      · have hlt := hm.inw b1 B1 (old b1 B1 e1 r1)
        rw [e2, Ren.ext_same] at r2
        cases r2
        rw [h.cb] at hc
        omega
      · rw [if_neg e1] at g1
        rw [if_neg e2] at g2
        exact hm.inj b1 k1 b2 k2 B1 B2 g1 g2 (old _ _ e1 r1) (old _ _ e2 r2) hw hc
  · intro b B' e2 vs ro frz hb hB
    simp only [upd] at hb
    by_cases e : b = id
    · rw [if_pos e] at hb
      rw [e, Ren.ext_same] at hB
      cases hB
      exact h.whole e2 vs ro frz (Option.some.inj hb)
    · rw [if_neg e] at hb
      exact hm.whole b B' e2 vs ro frz hb (old b B' e hB)

theorem Made.new {r : Ren} {n : Nat} {g : Nat → Option ABlk} {w w' : World} {k : ABlk} {v : AVal} {v' : Value} {B : Blk} (h : Made r n w k v v' w' B) (hm : MemRel r n g w)
    (hg : g n = none) : Step r n g w (r.ext n B) (n + 1) (upd g n k) w' := by
  have hid : r.at_ n = none := by
    cases e : r.at_ n with
    | none => rfl
    | some B' => exact absurd (hm.fresh n B' e) (Nat.lt_irrefl _)
  obtain ⟨hle, hmem⟩ := h.step (n' := n + 1) hm hid hg (Nat.le_succ _) (Nat.lt_succ_self _)
  obtain ⟨o, ho⟩ := h.heap
  refine ⟨hle, hmem, Nat.le_succ _, h.os, h.tape, h.output, by rw [ho, Array.size_push]; exact Nat.le_succ _, ?_, ?_, ?_⟩
  · intro cb hc _
    rw [ho, Array.getElem?_push, if_neg (by omega)]
  · intro b k' B' hb hB
    simp only [upd] at hb
    by_cases e : b = n
    · left; rw [e, Ren.ext_same] at hB; cases hB; rw [h.cb]; exact Nat.le_refl _
    · rw [if_neg e] at hb
      right
      have : r.at_ b = some B' := by simpa [Ren.ext, e] using hB
      exact ⟨b, k', B', hb, this, rfl, id⟩
  · intro b B' hB
    by_cases e : b = n
    · right; rw [e]; exact Nat.le_refl _
    · left; simpa [Ren.ext, e] using hB

/-- A row of cells, just made. -/
theorem made_row (wh : Bool) {r : Ren} {id : Nat} {w : World} (hid : r.at_ id = none) {e : TypeId} {vs : List AVal} {cs : Array Value} {x : AVal} {x' : Value} {w' : World} {fr : Nat × Nat}
    (hh : w'.heap = w.heap.push (.cells cs e fr)) (ho : w'.os = w.os) (ht : w'.tape = w.tape) (hp : w'.output = w.output) (hv : VsRel r vs (cs.toList.take vs.length)) (hl : vs.length ≤ cs.size)
    (hfr : ∀ j, j < cs.size → ¬ (fr.1 ≤ j ∧ j < fr.2)) (hx : VRel (r.ext id ⟨w.heap.size, 0, cs.size⟩) x x') (hwh : wh = true → cs.size = vs.length) :
    Made r id w (.cells e vs false 0 wh) x x' w' ⟨w.heap.size, 0, cs.size⟩ := by
  refine ⟨rfl, ⟨_, hh⟩, ho, ht, hp, ⟨cs, fr, by rw [hh]; simp, rfl, by simpa using hl, ?_, fun _ j _ h2 => hfr j h2⟩, hx, fun e vs ro frz h => by cases h; exact ⟨rfl, hwh rfl⟩⟩
  simpa using hv.mono (Ren.ext_le hid)
end Ev
end Go.Proofs.YtfddpaljmihinaaGreatDoor
