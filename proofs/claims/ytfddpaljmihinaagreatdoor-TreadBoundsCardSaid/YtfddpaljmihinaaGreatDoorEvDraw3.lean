/-
  Regions that draw their order: whatever order is drawn, the region comes to what the pass in the order of the text has found. (Conditions: the tables tell of the program what is so; the callees do what they are said to do; the program mixes its orders.)
-/
import Derived.Test.YtfddpaljmihinaaGreatDoorEvDraw2
namespace Go.Proofs.YtfddpaljmihinaaGreatDoor
namespace Ev
open Go

theorem Step.trans' {r r1 r2 : Ren} {n n1 nk n2 : Nat} {g g1 g2 : Nat → Option ABlk} {w w1 w2 : World} (h : Step r n g w r1 n1 g1 w1) (k : Step r1 nk g1 w1 r2 n2 g2 w2) (hn : n ≤ nk) :
    Step r n g w r2 n2 g2 w2 where
  le := Ren.le_trans h.le k.le
  mem := k.mem
  next := Nat.le_trans hn k.next
  os := k.os.trans h.os
  tape := k.tape.trans h.tape
  output := k.output.trans h.output
  size := Nat.le_trans h.size k.size
  keep := by
    intro cb hc hno
    rw [k.keep cb (Nat.lt_of_lt_of_le hc h.size) ?_]
    · exact h.keep cb hc hno
    · intro b x B hb hx hB e
      rcases h.own b x B hb hB with h1 | ⟨b0, k0, B0, h1, h2, h3, h4⟩
      · omega
      · exact hno b0 k0 B0 h1 (h4 hx) h2 (by rw [h3, e])
  own := by
    intro b x B hb hB
    rcases k.own b x B hb hB with h1 | ⟨b0, k0, B0, h1, h2, h3, h4⟩
    · left; exact Nat.le_trans h.size h1
    · rcases h.own b0 k0 B0 h1 h2 with z | ⟨b1, k1, B1, z1, z2, z3, z4⟩
      · left; rw [← h3]; exact z
      · right; exact ⟨b1, k1, B1, z1, z2, z3.trans h3, fun e => z4 (h4 e)⟩
  new := by
    intro b B hB
    rcases k.new b B hB with h1 | h1
    · exact h.new b B h1
    · right; exact Nat.le_trans hn h1

/-- A step in a part of the memory is one in the whole of it. -/
theorem Step.frame {r r' : Ren} {n n' : Nat} {g v v' g' : Nat → Option ABlk} {w w' : World} (hm : MemRel r n g w) (hv : ∀ b k, v b = some k → g b = some k) (h : Step r n v w r' n' v' w')
    (hg : ∀ b k, g' b = some k → v' b = some k ∨ (v b = none ∧ g b = some k)) : Step r n g w r' n' g' w' where
  le := h.le
  next := h.next
  os := h.os
  tape := h.tape
  output := h.output
  size := h.size
  keep := fun cb hc hno => h.keep cb hc fun b k B hb hk hB => hno b k B (hv b k hb) hk hB
  own := by
    intro b k B hb hB
    rcases hg b k hb with h1 | ⟨h1, h2⟩
    · rcases h.own b k B h1 hB with z | ⟨b0, k0, B0, z1, z2, z3, z4⟩
      · exact .inl z
      · exact .inr ⟨b0, k0, B0, hv _ _ z1, z2, z3, z4⟩
    · obtain ⟨B1, e1, _⟩ := hm.blk b k h2
      have := h.le b B1 e1
      rw [hB] at this
      cases this
      exact .inr ⟨b, k, B, h2, e1, rfl, id⟩
  new := h.new
  mem := by
    have rest : ∀ b k B, g b = some k → r'.at_ b = some B → r.at_ b = some B := by
      intro b k B hb hB
      obtain ⟨B1, e1, _⟩ := hm.blk b k hb
      have := h.le b B1 e1
      rw [hB] at this
      cases this
      exact e1
    refine ⟨h.mem.fresh, h.mem.inw, ?_, ?_, ?_⟩
    · intro b k hb
      rcases hg b k hb with h1 | ⟨h1, h2⟩
      · exact h.mem.blk b k h1
      · obtain ⟨B, e1, e2⟩ := hm.blk b k h2
        refine ⟨B, h.le b B e1, e2.mono h.le ?_⟩
        refine h.keep B.cb (hm.inw b B e1) fun b0 k0 B0 z1 z2 z3 z4 => ?_
        have := hm.inj b0 k0 b k B0 B (hv _ _ z1) h2 z3 e1 z2 z4
        rw [this, h1] at z1
        cases z1
    · intro b1 k1 b2 k2 B1 B2 g1 g2 r1 r2 hw hc
      rcases hg b1 k1 g1 with x1 | ⟨x1, y1⟩
      · rcases hg b2 k2 g2 with x2 | ⟨x2, y2⟩
        · exact h.mem.inj b1 k1 b2 k2 B1 B2 x1 x2 r1 r2 hw hc
        · have e2 := rest b2 k2 B2 y2 r2
          rcases h.own b1 k1 B1 x1 r1 with z | ⟨b0, k0, B0, z1, z2, z3, z4⟩
          · have := hm.inw b2 B2 e2
            omega
          · have := hm.inj b0 k0 b2 k2 B0 B2 (hv _ _ z1) y2 z2 e2 (z4 hw) (z3.trans hc)
            rw [this, x2] at z1
            cases z1
      · have e1 := rest b1 k1 B1 y1 r1
        rcases hg b2 k2 g2 with x2 | ⟨x2, y2⟩
        · rcases h.own b2 k2 B2 x2 r2 with z | ⟨b0, k0, B0, z1, z2, z3, z4⟩
          · have := hm.inw b1 B1 e1
            omega
          · have := hm.inj b1 k1 b0 k0 B1 B0 y1 (hv _ _ z1) e1 z2 hw (hc.trans z3.symm)
            rw [← this, x1] at z1
            cases z1
        · exact hm.inj b1 k1 b2 k2 B1 B2 y1 y2 e1 (rest b2 k2 B2 y2 r2) hw hc
    · intro b B e vs ro frz hb hB
      rcases hg b _ hb with h1 | ⟨h1, h2⟩
      · exact h.mem.whole b B e vs ro frz h1 hB
      · exact hm.whole b B e vs ro frz h2 (rest b _ B h2 hB)

/-- A block made under a name that had been kept for it. -/
theorem Made.beside {r : Ren} {id n base : Nat} {g : Nat → Option ABlk} {w w' : World} {k : ABlk} {v : AVal} {v' : Value} {B : Blk} (h : Made r id w k v v' w' B) (hm : MemRel r n g w)
    (hid : r.at_ id = none) (hg : g id = none) (hin : id < n) (hb : base ≤ id) : Step r base g w (r.ext id B) n (upd g id k) w' := by
  obtain ⟨hle, hmem⟩ := h.step (n' := n) hm hid hg (Nat.le_refl _) hin
  obtain ⟨o, ho⟩ := h.heap
  refine ⟨hle, hmem, by omega, h.os, h.tape, h.output, by rw [ho, Array.size_push]; exact Nat.le_succ _, ?_, ?_, ?_⟩
  · intro cb hc _
    rw [ho, Array.getElem?_push, if_neg (by omega)]
  · intro b k' B' hb hB
    simp only [upd] at hb
    by_cases e : b = id
    · left; rw [e, Ren.ext_same] at hB; cases hB; rw [h.cb]; exact Nat.le_refl _
    · rw [if_neg e] at hb
      right
      have : r.at_ b = some B' := by simpa [Ren.ext, e] using hB
      exact ⟨b, k', B', hb, this, rfl, fun e => e⟩
  · intro b B' hB
    by_cases e : b = id
    · right; omega
    · left; simpa [Ren.ext, e] using hB

/-! ### The reads, at every stage -/
section
variable {T : Tab} {base : Nat} {made : List (Nat × ABlk)} {wmE : Nat}

theorem stagesOk_spec {reads : List Rd} : ∀ {l : List Stage}, stagesOk T base made wmE reads l = true → ∀ k s, stageOf l k = some s → readsOk T base made wmE k s reads = true
  | [], _, k, s, h => by simp [stageOf] at h
  | x :: rest, h0, k, s, h => by
    simp only [stagesOk] at h0
    split at h0
    · rename_i h1
      simp only [stageOf] at h
      split at h
      · rename_i e; cases h; rw [e]; exact h1
      · exact stagesOk_spec h0 k s h
    · cases h0

theorem readsOk_spec {k : Nat} {s : Stage} : ∀ {rds : List Rd}, readsOk T base made wmE k s rds = true → ∀ rd ∈ rds, readOk T base made wmE k s rd = true
  | [], _, rd, h => by simp at h
  | x :: rest, h0, rd, h => by
    simp only [readsOk] at h0
    split at h0
    · rename_i h1
      rcases List.mem_cons.1 h with rfl | h
      · exact h1
      · exact readsOk_spec h0 rd h
    · cases h0

theorem readOk_spec {k : Nat} {s : Stage} {rd : Rd} (h : readOk T base made wmE k s rd = true) (hk : k ≠ rd.kc) (ha : s.abs.testBit rd.i = false)
    (hw : ∀ b, rd.p.testBit b = true → wmE.testBit b = true → s.wm.testBit b = true) : evR T rd.t (view base s.m (Nat.testBit (diff rd.p s.abs)) made).get rd.op = some rd.v := by
  unfold readOk at h
  split at h
  · rename_i e
    exact absurd (Nat.eq_of_beq_eq_true e) hk
  · split at h
    · rename_i e
      rw [ha] at e
      cases e
    · split at h
      · rename_i e
        exfalso
        have : Nat.land (Nat.land rd.p wmE) s.wm = Nat.land rd.p wmE := by
          apply Nat.eq_of_testBit_eq
          intro b
          rw [land_testBit, land_testBit]
          cases h1 : Nat.testBit rd.p b with
          | false => rfl
          | true =>
            cases h2 : Nat.testBit wmE b with
            | false => rfl
            | true => rw [hw b h1 h2]; rfl
        rw [this, Nat.beq_refl] at e
        cases e
      · split at h
        · rename_i v e
          rw [e, sameF_eq 100 h]
        · cases h
end

/-! ### The stages -/
theorem Chain.next {sz : Nat} {pre : Tree Nat} {s0 : Stage} : ∀ {l : List Stage}, Chain sz pre s0 l → ∀ {k : Nat} {s s' : Stage}, stageOf l k = some s → stageOf l (k + 1) = some s' →
    ∃ i p, i < sz ∧ pre.get i = some p ∧ s'.abs = Nat.lor p s.abs ∧ s'.wm = Nat.lor (2 ^ i) s.wm ∧ s.wm.testBit i = false
  | [], h, _, _, _, _, _ => h.elim
  | [x], _, k, s, s', h1, h2 => by
    have := stageOf_lt h2
    simp at this
  | x :: y :: rest, h, k, s, s', h1, h2 => by
    have hl := stageOf_lt h2
    simp only [stageOf] at h2
    split at h2
    · rename_i e
      cases h2
      have hk : k = rest.length := by simp at e; exact e
      simp only [stageOf] at h1
      rw [if_neg (by simp; omega), if_pos hk] at h1
      cases h1
      exact h.1
    · rename_i e
      have h3 : stageOf (y :: rest) k = some s := by
        have : k ≠ (y :: rest).length := by simp at e hl ⊢; omega
        rw [stageOf, if_neg this] at h1
        exact h1
      exact Chain.next h.2 h3 h2

theorem Chain.first {sz : Nat} {pre : Tree Nat} {s0 : Stage} : ∀ {l : List Stage}, Chain sz pre s0 l → stageOf l 0 = some s0
  | [], h => h.elim
  | [x], h => by simp only [Chain] at h; simp [stageOf, h]
  | x :: y :: rest, h => stageOf_cons (Chain.first h.2)

theorem Chain.mono {sz : Nat} {pre : Tree Nat} {s0 : Stage} {l : List Stage} (h : Chain sz pre s0 l) {k : Nat} {s : Stage} (hs : stageOf l k = some s) : ∀ (d : Nat) {s' : Stage}, stageOf l (k + d) = some s' → ∀ b, s.wm.testBit b = true → s'.wm.testBit b = true
  | 0, s', h1, b, hb => by
    rw [Nat.add_zero, hs] at h1
    cases h1
    exact hb
  | d + 1, s', h1, b, hb => by
    obtain ⟨s1, e1⟩ : ∃ s1, stageOf l (k + d) = some s1 := stageOf_some (by have := stageOf_lt h1; omega)
    obtain ⟨i, p, _, _, _, e2, _⟩ := h.next e1 h1
    rw [e2, lor_testBit, h.mono hs d e1 b hb]
    simp
end Ev
end Go.Proofs.YtfddpaljmihinaaGreatDoor
