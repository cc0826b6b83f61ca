/-
  The operations that write: stores. (Conditions: the tables tell of the program what is so; the memories are related.)
-/
import Derived.Test.YtfddpaljmihinaaGreatDoorEvMade
import Derived.Lib.FrozenHead
namespace Go.Proofs.YtfddpaljmihinaaGreatDoor
namespace Ev
open Go

theorem AMem.get_set (m : AMem) (b : Nat) (k : ABlk) : (m.set b k).get = upd m.get b k := by
  funext j
  simp only [AMem.get, AMem.set, upd, Tree.get_put]
  by_cases e : j = b
  · rw [if_pos e, if_pos e.symm]
  · rw [if_neg e, if_neg (fun h => e h.symm)]
theorem AMem.get_new (m : AMem) (k : ABlk) : (m.new k).get = upd m.get m.next k := by
  funext j
  simp only [AMem.get, AMem.new, upd, Tree.get_put]
  by_cases e : j = m.next
  · rw [if_pos e, if_pos e.symm]
  · rw [if_neg e, if_neg (fun h => e h.symm)]
theorem AMem.get_kill (m : AMem) (b : Nat) : (m.kill b).get = fun j => if j = b then none else m.get j := by
  funext j
  simp only [AMem.get, AMem.kill, Tree.get_set]
  by_cases e : j = b
  · rw [if_pos e, if_pos e.symm]
  · rw [if_neg e, if_neg (fun h => e h.symm)]

section
variable {P : Program} {r : Ren} {next : Nat} {g : Nat → Option ABlk} {w : World}

theorem MemRel.none_at (hm : MemRel r next g w) {b : Nat} (hb : next ≤ b) : r.at_ b = none ∧ g b = none := by
  constructor
  · cases e : r.at_ b with
    | none => rfl
    | some B => have := hm.fresh b B e; omega
  · cases e : g b with
    | none => rfl
    | some k => obtain ⟨B, hB, _⟩ := hm.blk b k e; have := hm.fresh b B hB; omega

/-- One block is turned. -/
theorem step_upd (hm : MemRel r next g w) {b : Nat} {k k' : ABlk} {B : Blk} {w' : World} (hb : g b = some k) (hk : k.writable = true) (hB : r.at_ b = some B)
    (h : BlkRel r k' B w') (hwh : ∀ e vs ro frz, k' = .cells e vs ro frz true → B.base = 0 ∧ B.size = vs.length) (hs : w'.heap.size = w.heap.size) (ho : w'.os = w.os) (ht : w'.tape = w.tape) (hp : w'.output = w.output)
    (hkeep : ∀ cb, cb ≠ B.cb → w'.heap[cb]? = w.heap[cb]?) : Step r next g w r next (upd g b k') w' where
  le := r.le_refl
  mem := by
    refine ⟨hm.fresh, fun b B h => by rw [hs]; exact hm.inw b B h, ?_, ?_, ?_⟩
    · intro b2 k2 h2
      simp only [upd] at h2
      by_cases e : b2 = b
      · rw [if_pos e] at h2; cases h2; subst e; exact ⟨B, hB, h⟩
      · rw [if_neg e] at h2
        obtain ⟨B2, r2, q2⟩ := hm.blk b2 k2 h2
        refine ⟨B2, r2, q2.mono r.le_refl (hkeep _ ?_)⟩
        intro c
        exact e (hm.inj b k b2 k2 B B2 hb h2 hB r2 hk c.symm).symm
    · intro b1 k1 b2 k2 B1 B2 h1 h2 r1 r2 hw hc
      simp only [upd] at h1 h2
      by_cases e1 : b1 = b
      · by_cases e2 : b2 = b
        · rw [e1, e2]
        · rw [if_neg e2] at h2
          subst e1
          rw [hB] at r1; cases r1
          exact hm.inj b1 k b2 k2 B B2 hb h2 hB r2 hk hc
      · rw [if_neg e1] at h1
        by_cases e2 : b2 = b
        · subst e2
          rw [hB] at r2; cases r2
          exact hm.inj b1 k1 b2 k B1 B h1 hb r1 hB hw hc
        · rw [if_neg e2] at h2
          exact hm.inj b1 k1 b2 k2 B1 B2 h1 h2 r1 r2 hw hc
    · intro b2 B2 e2 vs ro frz h2 r2
      simp only [upd] at h2
      by_cases e : b2 = b
      · rw [if_pos e] at h2
        rw [e, hB] at r2
        cases r2
        exact hwh e2 vs ro frz (Option.some.inj h2)
      · rw [if_neg e] at h2
        exact hm.whole b2 B2 e2 vs ro frz h2 r2
  next := Nat.le_refl _
  os := ho
  tape := ht
  output := hp
  size := by rw [hs]; exact Nat.le_refl _
  keep := fun cb _ hno => hkeep cb fun e => hno b k B hb hk hB e.symm
  own := by
    intro b2 k2 B2 h2 r2
    right
    simp only [upd] at h2
    by_cases e : b2 = b
    · subst e; rw [hB] at r2; cases r2; exact ⟨b2, k, B, hb, hB, rfl, fun _ => hk⟩
    · rw [if_neg e] at h2; exact ⟨b2, k2, B2, h2, r2, rfl, id⟩
  new := fun b B h => .inl h

theorem run_storeRow (cb o : Nat) (e : TypeId) (fz : Nat × Nat) : ∀ (vs : List Value) (i : Nat) (cur : Array Value) (w : World), w.heap[cb]? = some (.cells cur e fz) →
    (∀ j, o + i ≤ j → j < o + i + vs.length → ¬ (fz.1 ≤ j ∧ j < fz.2)) → o + i + vs.length ≤ cur.size → (∀ v ∈ vs, v.oneCell' = true) →
    (storeCells ⟨cb, o, none⟩ vs i).run P w = .ok () (w.setRow cb (cur.toList.take (o + i) ++ vs ++ cur.toList.drop (o + i + vs.length)).toArray)
  | [], i, cur, w, hg, _, _, _ => by
    simp only [storeCells, List.append_nil, List.length_nil, Nat.add_zero, List.take_append_drop, Array.toArray_toList]
    rw [setRow_self w cb cur e fz hg]
    rfl
  | v :: rest, i, cur, w, hg, hfz, hl, h1 => by
    have hi : o + i < cur.size := by simp at hl; omega
    have hcell : w.cell? ⟨cb, o + i, none⟩ = some cur[o + i] := by simp [World.cell?, hg, hi]
    have hfro : w.frozen? ⟨cb, o + i, none⟩ = false := by
      have := hfz (o + i) (Nat.le_refl _) (by simp)
      obtain ⟨lo, hi'⟩ := fz
      simp only [World.frozen?, hg, Bool.and_eq_false_iff, decide_eq_false_iff_not]
      simp only at this
      omega
    have hst : (store ((⟨cb, o, none⟩ : Addr).add i) v).run P w = .ok () (w.setRow cb (cur.setIfInBounds (o + i) v)) := by
      rw [Addr_add, run_store P w _ v _ (h1 v (by simp)), hcell]
      simp [hfro, setCell_eq_setRow w cb (o + i) cur e fz v hg]
    have ih := run_storeRow cb o e fz rest (i + 1) (cur.setIfInBounds (o + i) v) (w.setRow cb (cur.setIfInBounds (o + i) v)) (setRow_heap w cb cur _ e _ hg)
      (fun j a b => hfz j (by omega) (by simp; omega)) (by simp at hl ⊢; omega) (fun x hx => h1 x (by simp [hx]))
    simp only [storeCells, Sem.run_bind, hst, Result.andThen_ok, ih, setRow_setRow]
    congr 3
    have h2 : o + i < cur.toList.length := by simpa using hi
    simp only [Array.toList_setIfInBounds, List.length_cons]
    rw [List.take_set, List.drop_set, if_pos (by omega)]
    rw [show o + (i + 1) = o + i + 1 from by omega, List.take_succ_eq_append_getElem h2]
    have hl2 : (List.take (o + i) cur.toList).length = o + i := by simp; omega
    rw [List.set_append, if_neg (by omega), hl2]
    simp only [Nat.sub_self, List.set_cons_zero, List.append_assoc, List.cons_append, List.nil_append]
    rw [show o + i + 1 + rest.length = o + i + (rest.length + 1) from by omega]

theorem one_rel {v : AVal} {v' : Value} (h : VRel r v v') (h1 : v.one = true) : v'.oneCell' = true := by
  cases h <;> first | rfl | (simp [AVal.one] at h1)
theorem ones_rel {vs : List AVal} {vs' : List Value} (h : VsRel r vs vs') (h1 : vs.all AVal.one = true) : ∀ v ∈ vs', v.oneCell' = true := by
  intro v hv
  obtain ⟨i, hi⟩ := List.getElem?_of_mem hv
  have hlt : i < vs.length := by
    rw [← h.len]
    rcases Nat.lt_or_ge i vs'.length with c | c
    · exact c
    · rw [List.getElem?_eq_none c] at hi; cases hi
  have e : vs[i]? = some vs[i] := List.getElem?_eq_getElem hlt
  exact one_rel (h.at_ i _ _ e hi) (List.all_eq_true.1 h1 _ (List.getElem_mem hlt))

theorem setRow_size (w : World) (b : Nat) (cs : Array Value) : (w.setRow b cs).heap.size = w.heap.size := by simp [World.setRow]

theorem get_over {α : Type} (A X : List α) (n j : Nat) (hn : n ≤ A.length) :
    (A.take n ++ X ++ A.drop (n + X.length))[j]? = if j < n then A[j]? else if j < n + X.length then X[j - n]? else A[j]? := by
  have hl : (A.take n).length = n := by simp; omega
  rw [List.append_assoc, List.getElem?_append, hl]
  by_cases c : j < n
  · rw [if_pos c, if_pos c, List.getElem?_take, if_pos c]
  · rw [if_neg c, if_neg c, List.getElem?_append]
    by_cases d : j < n + X.length
    · rw [if_pos (by omega), if_pos d]
    · rw [if_neg (by omega), if_neg d, List.getElem?_drop]
      congr 1; omega

/-- A stretch of a row of cells is written. -/
theorem write_row (hm : MemRel r next g w) {b o : Nat} {e : TypeId} {vs : List AVal} {frz : Nat} {B : Blk} {cs : List AVal} {cs' : List Value} {wh : Bool} (hb : g b = some (.cells e vs false frz wh)) (hB : r.at_ b = some B)
    (hc : VsRel r cs cs') (h1 : cs.all AVal.one = true) (hf : frz ≤ o) (hl : o ≤ vs.length) (hroom : B.base + o + cs.length ≤ B.size) :
    ∃ w', (storeCells ⟨B.cb, B.base + o, none⟩ cs').run P w = .ok () w' ∧ Step r next g w r next (upd g b (.cells e (over vs o cs) false frz wh)) w' := by
  obtain ⟨B', hB', c, fr, q1, q2, q3, q4, q5⟩ := hm.blk _ _ hb
  rw [hB] at hB'
  cases hB'
  have hcl := hc.len
  refine ⟨_, run_storeRow B.cb (B.base + o) e fr cs' 0 c w q1 (fun j a1 a2 => q5 rfl j (by omega) (by omega)) (by omega) (ones_rel hc h1), ?_⟩
  refine step_upd hm (k := .cells e vs false frz wh) hb rfl hB ?_ ?_ (setRow_size _ _ _) rfl rfl rfl (fun cb hne => setRow_other w B.cb cb _ hne)
  rotate_left
  · intro e2 vs2 ro2 frz2 h
    cases h
    obtain ⟨z1, z2⟩ := hm.whole b B _ _ _ _ hb hB
    exact ⟨z1, by simp [over]; omega⟩
  refine ⟨_, fr, setRow_heap w B.cb c _ e fr q1, ?_, ?_, ?_, ?_⟩
  · simp; omega
  · simp [over]; omega
  · have hlen : (over vs o cs).length = max (o + cs.length) vs.length := by simp [over]; omega
    have e2 : (List.drop B.base ((c.toList.take (B.base + o + 0) ++ cs' ++ c.toList.drop (B.base + o + 0 + cs'.length)).toArray.toList)).take (over vs o cs).length =
        (((c.toList.drop B.base).take vs.length).take o ++ cs' ++ ((c.toList.drop B.base).take vs.length).drop (o + cs'.length)) := by
      simp only [Nat.add_zero]
      rw [hlen]
      apply List.ext_getElem?
      intro j
      have hsz : c.toList.length = c.size := by simp
      rw [List.getElem?_take]
      by_cases hj : j < max (o + cs.length) vs.length
      · rw [if_pos hj, List.getElem?_drop, get_over _ _ _ _ (by omega), get_over _ _ _ _ (by simp; omega)]
        by_cases j1 : j < o
        · rw [if_pos (by omega), if_pos j1, List.getElem?_take, if_pos (by omega), List.getElem?_drop]
        · rw [if_neg (by omega), if_neg j1]
          by_cases j2 : j < o + cs'.length
          · rw [if_pos (by omega), if_pos j2]
            congr 1; omega
          · rw [if_neg (by omega), if_neg j2, List.getElem?_take, if_pos (by omega), List.getElem?_drop]
      · rw [if_neg hj]
        symm
        apply List.getElem?_eq_none
        simp
        omega
    rw [e2]
    exact q4.over hc o
  · intro _ j a1 a2
    refine q5 rfl j a1 ?_
    simp at a2
    omega
end
end Ev
end Go.Proofs.YtfddpaljmihinaaGreatDoor
