/-
  The operations that write: append. (Conditions: the tables tell of the program what is so; the memories are related.)
-/
import Derived.Test.YtfddpaljmihinaaGreatDoorEvWrite2
namespace Go.Proofs.YtfddpaljmihinaaGreatDoor
namespace Ev
open Go

section
variable {P : Program} {r : Ren} {w : World} {next : Nat} {g : Nat → Option ABlk}

theorem MemRel.sub {g' : Nat → Option ABlk} (hm : MemRel r next g w) (h : ∀ b k, g' b = some k → g b = some k) : MemRel r next g' w :=
  ⟨hm.fresh, hm.inw, fun b k e => hm.blk b k (h b k e), fun b1 k1 b2 k2 B1 B2 h1 h2 => hm.inj b1 k1 b2 k2 B1 B2 (h _ _ h1) (h _ _ h2), fun b B e vs ro frz h1 => hm.whole b B e vs ro frz (h _ _ h1)⟩

theorem Step.sub {g' : Nat → Option ABlk} (hm : MemRel r next g w) (h : ∀ b k, g' b = some k → g b = some k) : Step r next g w r next g' w :=
  ⟨r.le_refl, hm.sub h, Nat.le_refl _, rfl, rfl, rfl, Nat.le_refl _, fun _ _ _ => rfl, fun b k B e hB => .inr ⟨b, k, B, h b k e, hB, rfl, id⟩, fun _ _ e => .inl e⟩

def killed (g : Nat → Option ABlk) (b : Nat) : Nat → Option ABlk := fun j => if j = b then none else g j
theorem killed_sub (g : Nat → Option ABlk) (b : Nat) : ∀ j k, killed g b j = some k → g j = some k := by
  intro j k h
  simp only [killed] at h
  split at h
  · cases h
  · exact h

/-- A row goes on under another name, from a place on. -/
theorem step_move (hm : MemRel r next g w) {b o : Nat} {e : TypeId} {vs vs2 : List AVal} {frz : Nat} {B : Blk} {wh : Bool} (hb : g b = some (.cells e vs false frz wh)) (hB : r.at_ b = some B)
    (h2 : ∃ k, vs2 = (vs.drop o).take k) (ho : o ≤ vs.length) :
    Step r next g w (r.ext next ⟨B.cb, B.base + o, B.size⟩) (next + 1) (upd (killed g b) next (.cells e vs2 false (frz - o) false)) w := by
  obtain ⟨hn1, hn2⟩ := hm.none_at (Nat.le_refl next)
  have hle := Ren.ext_le (B := ⟨B.cb, B.base + o, B.size⟩) hn1
  have old : ∀ b B', b ≠ next → (r.ext next ⟨B.cb, B.base + o, B.size⟩).at_ b = some B' → r.at_ b = some B' := fun b B' e hb => by simpa [Ren.ext, e] using hb
  obtain ⟨B', hB', c, fr, q1, q2, q3, q4, q5⟩ := hm.blk _ _ hb
  rw [hB] at hB'
  cases hB'
  refine ⟨hle, ⟨?_, ?_, ?_, ?_, ?_⟩, Nat.le_succ _, rfl, rfl, rfl, Nat.le_refl _, fun _ _ _ => rfl, ?_, ?_⟩
  · intro j Bj hj
    by_cases e : j = next
    · omega
    · exact Nat.lt_succ_of_lt (hm.fresh j Bj (old j Bj e hj))
  · intro j Bj hj
    by_cases e : j = next
    · subst e; rw [Ren.ext_same] at hj; cases hj; exact hm.inw b B hB
    · exact hm.inw j Bj (old j Bj e hj)
  · intro j kj hj
    simp only [upd] at hj
    by_cases e : j = next
    · rw [if_pos e] at hj
      cases hj
      subst e
      refine ⟨_, Ren.ext_same r j _, c, fr, q1, q2, ?_, ?_, ?_⟩
      · obtain ⟨k, rfl⟩ := h2
        simp only [List.length_take, List.length_drop]
        omega
      · obtain ⟨k, rfl⟩ := h2
        have := ((q4.drop o).take k).mono hle
        have e2 : (List.take k (List.drop o (List.take vs.length (List.drop B.base c.toList)))) = List.take (List.take k (List.drop o vs)).length (List.drop (B.base + o) c.toList) := by
          apply List.ext_getElem?
          intro i
          simp only [List.getElem?_take, List.getElem?_drop, List.length_take, List.length_drop]
          by_cases c1 : i < k
          · by_cases c2 : o + i < vs.length
            · rw [if_pos c1, if_pos c2, if_pos (by omega)]
              congr 1; omega
            · rw [if_pos c1, if_neg c2, if_neg (by omega)]
          · rw [if_neg c1, if_neg (by omega)]
        rw [e2] at this
        exact this
      · intro _ i a1 a2
        exact q5 rfl i (by simp only at a1; omega) a2
    · rw [if_neg e] at hj
      obtain ⟨Bj, r1, r2⟩ := hm.blk j kj (killed_sub g b j kj hj)
      exact ⟨Bj, hle j Bj r1, r2.mono hle rfl⟩
  · intro b1 k1 b2 k2 B1 B2 g1 g2 r1 r2 hw hc
    simp only [upd] at g1 g2
    have other : ∀ j kj Bj, j ≠ next → killed g b j = some kj → (r.ext next ⟨B.cb, B.base + o, B.size⟩).at_ j = some Bj → Bj.cb ≠ B.cb := by
      intro j kj Bj ej hj rj hcb
      have hjg := killed_sub g b j kj hj
      have := hm.inj b _ j kj B Bj hb hjg hB (old j Bj ej rj) rfl hcb.symm
      subst this
      simp [killed] at hj
    by_cases e1 : b1 = next
    · by_cases e2 : b2 = next
      · rw [e1, e2]
      · rw [if_neg e2] at g2
        rw [e1, Ren.ext_same] at r1
        cases r1
        exact absurd hc.symm (other b2 k2 B2 e2 g2 r2)
    · rw [if_neg e1] at g1
      by_cases e2 : b2 = next
      · rw [e2, Ren.ext_same] at r2
        cases r2
        exact absurd hc (other b1 k1 B1 e1 g1 r1)
      · rw [if_neg e2] at g2
        exact hm.inj b1 k1 b2 k2 B1 B2 (killed_sub g b _ _ g1) (killed_sub g b _ _ g2) (old _ _ e1 r1) (old _ _ e2 r2) hw hc
  · intro j Bj e2 vs3 ro3 frz3 hj rj
    simp only [upd] at hj
    by_cases e : j = next
    · rw [if_pos e] at hj; cases hj
    · rw [if_neg e] at hj
      exact hm.whole j Bj e2 vs3 ro3 frz3 (killed_sub g b j _ hj) (old j Bj e rj)
  · intro j kj Bj hj rj
    right
    simp only [upd] at hj
    by_cases e : j = next
    · rw [e, Ren.ext_same] at rj
      cases rj
      exact ⟨b, _, B, hb, hB, rfl, fun _ => rfl⟩
    · rw [if_neg e] at hj
      exact ⟨j, kj, Bj, killed_sub g b j kj hj, old j Bj e rj, rfl, id⟩
  · intro j Bj hj
    by_cases e : j = next
    · right; omega
    · left; exact old j Bj e hj

variable {T : Tab} (hT : TabOk T P)

/-- What a new row holds behind an append that has grown. -/
theorem grown_made (hm : MemRel r next g w) {e : TypeId} {i : TypeInfo} {z : Value} {zc : List AVal} (hzc : VsRel r zc z.cells.toList) (hzl : zc.length = i.size) {sLen sCap n : Nat} {olds news : List AVal} {olds' news' : List Value}
    (ho : VsRel r olds olds') (hnw : VsRel r news news') (hol : olds.length = sLen * i.size) (hnl : news.length = n * i.size) :
    ∃ B, Made r next w (.cells e (olds ++ news) false 0 false) (.slice next 0 (sLen + n) i.size (.least (sLen + n)))
      (.slice (some ⟨w.heap.size, 0, none⟩) (sLen + n) (grownCap w (sLen + n) sCap e))
      (w.drew.alloc (.cells (olds'.toArray ++ news'.toArray ++ Builtin.zeroCells z.cells (grownCap w (sLen + n) sCap e - (sLen + n))) e)) B := by
  have hid := (hm.none_at (Nat.le_refl next)).1
  have l1 := ho.len
  have l2 := hnw.len
  have hcap := grownCap_ge w (sLen + n) sCap e
  have hzs : z.cells.size = i.size := by have := hzc.len; simp at this; omega
  have hmul : (sLen + n) * i.size = sLen * i.size + n * i.size := Nat.add_mul _ _ _
  have hsz : (olds'.toArray ++ news'.toArray ++ Builtin.zeroCells z.cells (grownCap w (sLen + n) sCap e - (sLen + n))).size = grownCap w (sLen + n) sCap e * i.size := by
    simp only [Array.size_append, List.size_toArray, Builtin.zeroCells, Array.size_map, Array.size_range, hzs, l1, l2, hol, hnl]
    rw [← hmul, ← Nat.add_mul]
    congr 1
    omega
  refine ⟨_, made_row false (fr := (0, 0)) hid rfl rfl rfl rfl ?_ ?_ (fun j _ h => by simp at h) ?_ (fun h => Bool.noConfusion h)⟩
  · have : (olds ++ news).length = (olds' ++ news').length := by simp [l1, l2]
    simp only [Array.toList_append]
    rw [this, List.take_left']
    · exact ho.append hnw
    · simp
  · rw [hsz]
    simp only [List.length_append, hol, hnl]
    rw [← hmul]
    exact Nat.mul_le_mul_right _ hcap
  · refine .slice next 0 _ i.size _ _ _ _ (Ren.ext_same r next _) hcap hcap (.inr ⟨rfl, ?_⟩)
    simp only [Nat.zero_add]
    rw [hsz]
    exact Nat.le_refl _
end
end Ev
end Go.Proofs.YtfddpaljmihinaaGreatDoor
