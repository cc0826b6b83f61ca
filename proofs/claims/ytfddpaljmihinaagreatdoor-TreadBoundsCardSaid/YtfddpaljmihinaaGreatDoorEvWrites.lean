/-
  The writing operations that are left: copy, maps, iterators, strings over cells. (Conditions: the tables tell of the program what is so; the memories are related.)
-/
import Derived.Test.YtfddpaljmihinaaGreatDoorEvAppend
namespace Go.Proofs.YtfddpaljmihinaaGreatDoor
namespace Ev
open Go

section
variable {P : Program} {r : Ren} {w : World} {T : Tab} (hT : TabOk T P)

theorem run_setMap {b : Nat} {es : Array MapEntry} {clock : Nat} {o : Obj} (h : w.heap[b]? = some (.map es clock)) : (setObj b o).run P w = .ok () { w with heap := w.heap.setIfInBounds b o } := by
  simp [setObj, Sem.run, h]
theorem run_setIter {b : Nat} {s : ByteArray} {pos : Nat} {o : Obj} (h : w.heap[b]? = some (.stringIter s pos)) : (setObj b o).run P w = .ok () { w with heap := w.heap.setIfInBounds b o } := by
  simp [setObj, Sem.run, h]

theorem setNth_rel {es : List (AVal × AVal)} {es' : List MapEntry} (h : EntRel r es es') {i : Nat} {k v : AVal} {k' v' : Value} (hk : VRel r k k') (hv : VRel r v v') (hi : i < es.length) :
    EntRel r (setNth es i k v) (es'.modify i fun e => { e with key := k', val := v' }) := by
  induction es generalizing es' i with
  | nil => simp at hi
  | cons e es ih =>
    cases es' with
    | nil => have := h.1; simp at this
    | cons e' es' =>
      cases i with
      | zero =>
        refine ⟨by simpa [setNth] using h.1, fun j u u' a b => ?_⟩
        simp only [setNth, List.modify_zero_cons] at a b
        cases j with
        | zero => simp at a b; subst a; subst b; exact ⟨hk, hv⟩
        | succ j => exact h.tail.2 j u u' (by simpa using a) (by simpa using b)
      | succ i =>
        have := ih h.tail (i := i) (by simpa using hi)
        simp only [setNth, List.modify_succ_cons]
        refine ⟨by simpa using this.1, fun j u u' a b => ?_⟩
        cases j with
        | zero => simp at a b; subst a; subst b; exact h.head
        | succ j => exact this.2 j u u' (by simpa using a) (by simpa using b)

theorem push_rel {es : List (AVal × AVal)} {es' : List MapEntry} (h : EntRel r es es') {k v : AVal} {e' : MapEntry} (hk : VRel r k e'.key) (hv : VRel r v e'.val) :
    EntRel r (es ++ [(k, v)]) (es' ++ [e']) := by
  refine ⟨by simp [h.1], fun i u u' a b => ?_⟩
  rw [List.getElem?_append] at a b
  rw [h.1] at b
  by_cases c : i < es.length
  · rw [if_pos c] at a b; exact h.2 i u u' a b
  · rw [if_neg c] at a b
    cases hj : i - es.length with
    | zero => rw [hj] at a b; simp at a b; subst a; subst b; exact ⟨hk, hv⟩
    | succ j => rw [hj] at a; simp at a

theorem sameBits_refl {d : TypeDesc} {x y : AVal} {x' y' : Value} (hx : VRel r x x') (hy : VRel r y y') (h : keyEq d x y = some true) (n : Nat) : Instr.sameBits n y' x' = true := by
  unfold keyEq at h
  split at h
  · rename_i k a k' b
    by_cases e : k = k'
    · rw [if_pos e] at h
      subst e
      simp at h
      subst h
      rw [hx.int_inv, hy.int_inv]
      cases n <;> simp [Instr.sameBits]
    · rw [if_neg e] at h; cases h
  · obtain ⟨s1, rfl, e1⟩ := hx.str_inv
    obtain ⟨s2, rfl, e2⟩ := hy.str_inv
    simp only [Option.some.injEq] at h
    have : (s2 == s1) = true := by
      rw [string_beq, e1, e2]
      rw [bytesEq_eq] at h
      simp at h
      simp [h]
    cases n <;> simp [Instr.sameBits, this]
  · simp at h
    subst h
    rw [hx.bool_inv, hy.bool_inv]
    cases n <;> simp [Instr.sameBits]
  · cases h

/-- The key that was found is the key that was asked for. -/
theorem findKey_hit {d : TypeDesc} {x : AVal} : ∀ {es : List (AVal × AVal)} {i j : Nat} {v : AVal}, findKey d x es i = some (some (j, v)) → ∃ k, es[j - i]? = some (k, v) ∧ keyEq d x k = some true ∧ i ≤ j := by
  intro es
  induction es with
  | nil => intro i j v h; cases h
  | cons e es ih =>
    intro i j v h
    obtain ⟨k, u⟩ := e
    simp only [findKey] at h
    split at h
    · rename_i hk
      cases h
      exact ⟨k, by simp, hk, Nat.le_refl _⟩
    · obtain ⟨k2, h1, h2, h3⟩ := ih h
      refine ⟨k2, ?_, h2, by omega⟩
      rw [show j - i = (j - (i + 1)) + 1 from by omega, List.getElem?_cons_succ]
      exact h1
    · cases h

theorem findKey_miss {d : TypeDesc} {x : AVal} : ∀ {es : List (AVal × AVal)} {i : Nat}, findKey d x es i = some none → ∀ e ∈ es, keyEq d x e.1 = some false := by
  intro es
  induction es with
  | nil => intro i _ e he; cases he
  | cons e es ih =>
    intro i h e' he'
    obtain ⟨k, u⟩ := e
    simp only [findKey] at h
    split at h
    · cases h
    · rename_i hk
      rcases List.mem_cons.1 he' with c | c
      · subst c; exact hk
      · exact ih h e' c
    · cases h

/-- What the keys' comparison says of the values. -/
theorem keyEq_val {r : Ren} {d : TypeDesc} {x k : AVal} {x' k' : Value} {b : Bool} (hx : VRel r x x') (hk : VRel r k k') (h : keyEq d x k = some b) : (b = true → k' = x') ∧ (b = false → k' ≠ x') := by
  unfold keyEq at h
  split at h
  · rename_i k1 a k2 c
    by_cases e : k1 = k2
    · rw [if_pos e] at h
      subst e
      rw [hx.int_inv, hk.int_inv]
      cases h
      refine ⟨fun e => by simp at e; rw [e], fun e c => ?_⟩
      cases c
      simp at e
    · rw [if_neg e] at h; cases h
  · obtain ⟨s1, rfl, e1⟩ := hx.str_inv
    obtain ⟨s2, rfl, e2⟩ := hk.str_inv
    simp only [Option.some.injEq] at h
    rw [bytesEq_eq] at h
    subst h
    refine ⟨fun e => ?_, fun e c => ?_⟩
    · simp only [beq_iff_eq] at e
      have : s1.data = s2.data := by
        apply Array.toList_inj.1
        rw [e1, e2, e]
      cases s1; cases s2
      simp only at this
      rw [this]
    · cases c
      rw [← e1, ← e2] at e
      simp at e
  · cases h
    rw [hx.bool_inv, hk.bool_inv]
    refine ⟨fun e => by simp at e; rw [e], fun e c => ?_⟩
    cases c
    simp at e
  · cases h

include hT in
theorem mapUpdateOp_ok {m m' : AMem} (hm : MemRel r m.next m.get w) {mt : TypeId} {x k v u : AVal} {x' k' v' : Value} (hx : VRel r x x') (hk : VRel r k k') (hv : VRel r v v')
    (h : mapUpdateOp T m mt x k v = .val u m') : u = .any ∧ ∃ w', (Instr.mapUpdate mt x' k' v').run P w = .ok () w' ∧ Step r m.next m.get w r m'.next m'.get w' := by
  obtain ⟨N, hN⟩ : ∃ N, (10000 : Nat) = N + 1 := ⟨9999, rfl⟩
  unfold mapUpdateOp at h
  split at h
  · rename_i kt et hd
    split at h
    · rename_i d b hd2
      obtain ⟨B, hB, rfl⟩ := hx.map_inv
      split at h
      · rename_i es hg
        obtain ⟨B', hB', es', clock, q1, q2, q3⟩ := hm.blk _ _ hg
        rw [hB] at hB'
        cases hB'
        split at h
        · cases h
        · rename_i hfit
          have hck := checkKey_ok (P := P) (w := w) N false (hT.und hd2) hk hfit
          rw [← hN] at hck
          have upd_step : ∀ (es2 : List (AVal × AVal)) (o : Array MapEntry) (cl : Nat), EntRel r es2 o.toList → MapKept.Stamped o cl →
              Step r m.next m.get w r (m.set b (.map es2)).next (m.set b (.map es2)).get { w with heap := w.heap.setIfInBounds B.cb (.map o cl) } := by
            intro es2 o cl hrel hsta
            have hlt := hm.inw b B hB
            rw [AMem.get_set]
            refine step_upd hm hg rfl hB ⟨o, cl, ?_, hrel, hsta⟩ (fun e vs ro frz h => by cases h) (by simp) rfl rfl rfl (fun cb hne => ?_)
            · simp [hlt]
            · simp [hne.symm]
          split at h
          · rename_i i old hf
            cases h
            refine ⟨rfl, _, ?_, upd_step _ (es'.modify i fun e => { e with key := k', val := v' }) clock ?_ ?_⟩
            · rcases findKey_ok hk q2 hf with ⟨h1, _⟩ | ⟨j, u0, u', h1, h2, h3, h4, h5⟩
              · cases h1
              · cases h1
                have hfk : (Instr.findKey kt k' es'.toList).run P w = .ok (some (i, u')) w := by simp [Instr.findKey, run_und hT hd2, h2]
                obtain ⟨k2, g1, g2, _⟩ := findKey_hit hf
                rw [Nat.sub_zero] at g1
                have hes : ∃ e', es'[i]? = some e' := by
                  have hlt : i < es'.toList.length := by
                    rw [q2.1]
                    rcases Nat.lt_or_ge i es.length with c | c
                    · exact c
                    · rw [List.getElem?_eq_none c] at g1; cases g1
                  exact ⟨es'[i]'(by simpa using hlt), by simp at hlt; simp [hlt]⟩
                obtain ⟨e', he'⟩ := hes
                have hrelk := (q2.2 i _ e' g1 (by rw [Array.getElem?_toList]; exact he')).1
                have hbits := sameBits_refl hk hrelk g2 10000
                have hstay : (Instr.keyThatStays (((es'[i]?).map (·.key)).getD k') k').run P w = .ok k' w := by
                  simp [Instr.keyThatStays, he', hbits]
                simp only [Instr.mapUpdate, Sem.run_bind, run_und hT hd, Result.andThen_ok, run_getMap q1, hck, hfk, hstay, run_setMap q1]
            · rcases findKey_ok hk q2 hf with ⟨h1, _⟩ | ⟨j, u0, u', h1, h2, h3, h4, h5⟩
              · cases h1
              · cases h1
                rw [Array.toList_modify]
                exact setNth_rel q2 hk hv (by omega)
            · obtain ⟨k2, g1, g2, _⟩ := findKey_hit hf
              rw [Nat.sub_zero] at g1
              refine MapKept.stamped_modify q3 i _ (fun _ _ => rfl) fun e' _ he' => ?_
              exact (keyEq_val hk (q2.2 i _ e' g1 (by rw [Array.getElem?_toList]; exact he')).1 g2).1 rfl |>.symm
          · rename_i hf
            cases h
            refine ⟨rfl, _, ?_, upd_step _ (es'.push { key := k', val := v', born := clock }) (clock + 1) ?_ ?_⟩
            · rcases findKey_ok hk q2 hf with ⟨_, h2⟩ | ⟨j, u0, u', h1, _⟩
              · have hfk : (Instr.findKey kt k' es'.toList).run P w = .ok none w := by simp [Instr.findKey, run_und hT hd2, h2]
                simp only [Instr.mapUpdate, Sem.run_bind, run_und hT hd, Result.andThen_ok, run_getMap q1, hck, hfk, run_setMap q1]
              · cases h1
            · rw [Array.toList_push]
              exact push_rel q2 hk hv
            · refine MapKept.stamped_push q3 fun y hy => ?_
              obtain ⟨j, hj⟩ := List.mem_iff_getElem?.1 hy
              have hjl : j < es.length := by rw [← q2.1]; exact (List.getElem?_eq_some_iff.1 hj).1
              have he := List.getElem?_eq_getElem hjl
              exact (keyEq_val hk (q2.2 j _ y he hj).1 (findKey_miss hf _ (List.getElem_mem hjl))).2 rfl
          · cases h
      · cases h
    · cases h
  · cases h
end
end Ev
end Go.Proofs.YtfddpaljmihinaaGreatDoor
