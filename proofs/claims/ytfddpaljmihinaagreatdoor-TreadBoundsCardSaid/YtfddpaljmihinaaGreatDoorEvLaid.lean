/-
  From the variables that a law lists as laid to the rows of cells that the evaluator starts from. (Conditions: the world is shaped; the variables are laid.)
-/
import Derived.Test.YtfddpaljmihinaaGreatDoorEvStart
namespace Go.Proofs.YtfddpaljmihinaaGreatDoor
namespace Ev
open Go Go.Lib

section
variable {P : Program} {w : World}

theorem row_of_shape (h : w.ShapedOpen P) {g : Nat} {t : TypeId} (hg : g < P.globals.size)
    (h0 : (((begin P (fun _ _ => 0) default).world.heap[g]?).bind Obj.row?).map (·.2) = some t) : ∃ c fr, w.heap[g]? = some (.cells c t fr) := by
  cases e : ((begin P (fun _ _ => 0) default).world.heap[g]?).bind Obj.row? with
  | none => rw [e] at h0; cases h0
  | some x =>
    obtain ⟨zero, t'⟩ := x
    rw [e] at h0
    cases h0
    obtain ⟨cs, a, _, _⟩ := h.1 g zero t' hg e
    exact ⟨cs, _, a⟩

theorem var_row {g : Nat} {n : String} {cs c : Array Value} {t : TypeId} {fr : Nat × Nat} (hn : P.globalNamed n = some g) (hv : w.var? P n = some cs) (hc : w.heap[g]? = some (.cells c t fr)) : c = cs := by
  simp only [World.var?, hn, Option.bind_some, hc] at hv
  exact Option.some.inj hv

theorem vs_ints {r : Ren} {k : IntKind} (zs : List Int) : VsRel r (intsOf k zs) (zs.map fun z => Value.int k z) :=
  ⟨by simp [intsOf], fun i v v' h h' => by
    simp only [intsOf, List.getElem?_map, Option.map_eq_some_iff] at h h'
    obtain ⟨z, hz, rfl⟩ := h
    obtain ⟨z', hz', rfl⟩ := h'
    rw [hz] at hz'
    cases hz'
    exact .int k z⟩

theorem rowIs_of {g : Nat} {t : TypeId} {vs : List AVal} {c : Array Value} {fr : Nat × Nat} (hc : w.heap[g]? = some (.cells c t fr)) (h : VsRel ⟨fun _ => none⟩ vs c.toList) : RowIs w g t vs := by
  have hl := h.len
  refine ⟨c, fr, hc, ?_, by simp at hl; omega⟩
  rw [← hl, List.take_length]
  exact h

theorem rowIs_tab {g : Nat} {t e : TypeId} {m : Nat} {k : IntKind} {zs : List Int} {n : String} (hs : ∃ c fr, w.heap[g]? = some (.cells c t fr)) (hn : P.globalNamed n = some g) (hty : (P.globals[g]?).map (·.type) = some t)
    (ht : P.underlying t = some (.array m e)) (he : P.underlying e = some (.int k)) (hce : P.cellsOf e = 1) (hct : P.cellsOf t = m) (hr : VarReads P w n (tabData k zs)) : RowIs w g t (intsOf k zs) := by
  obtain ⟨g', t', cs, fuel, p, h1, h2, h3, h4⟩ := hr
  obtain rfl := Option.some.inj (hn.symm.trans h1)
  obtain rfl := Option.some.inj (hty.symm.trans h2)
  have hcs := cells_of_tab ht he hce hct h4
  obtain ⟨c, fr, hc⟩ := hs
  obtain rfl := var_row hn h3 hc
  exact rowIs_of hc (by rw [hcs]; exact vs_ints zs)

theorem rowIs_structs {g : Nat} {t e : TypeId} {m s : Nat} {fs : Array Field} {k : IntKind} {zs : List Int} {zss : List (List Int)} {n : String} (hs : ∃ c fr, w.heap[g]? = some (.cells c t fr)) (hn : P.globalNamed n = some g) (hty : (P.globals[g]?).map (·.type) = some t)
    (ht : P.underlying t = some (.array m e)) (he : P.underlying e = some (.struct fs)) (hf : ∀ (i : Nat) (f : Field), fs[i]? = some f → P.underlying f.type = some (.int k) ∧ f.offset = i ∧ P.cellsOf f.type = 1) (hce : P.cellsOf e = s) (hfs : fs.size = s) (hs0 : 0 < s)
    (hz : ∀ q, q < m * s → zs[q]? = (zss[q / s]?).bind (·[q % s]?)) (hzl : zs.length = m * s) (hr : VarReads P w n (.agg (zss.map fun zs => .agg (zs.map fun z => .lit (.int k z))))) : RowIs w g t (intsOf k zs) := by
  obtain ⟨g', t', cs, fuel, p, h1, h2, h3, h4⟩ := hr
  obtain rfl := Option.some.inj (hn.symm.trans h1)
  obtain rfl := Option.some.inj (hty.symm.trans h2)
  obtain ⟨c, fr, hc⟩ := hs
  obtain rfl := var_row hn h3 hc
  have cell : ∀ (q : Nat) (z : Int), zs[q]? = some z → c.toList[q]? = some (Value.int k z) := by
    intro q z hq
    have hql : q < m * s := by
      rw [← hzl]
      exact (List.getElem?_eq_some_iff.1 hq).1
    have hi : q / s < m := Nat.div_lt_of_lt_mul (by rw [Nat.mul_comm]; exact hql)
    obtain ⟨fuel', d, p', e1, e2⟩ := array_elem ht h4 (q / s) hi
    rw [hz q hql] at hq
    cases e3 : zss[q / s]? with
    | none => rw [e3] at hq; cases hq
    | some us =>
      rw [e3, Option.bind_some] at hq
      rw [List.getElem?_map, e3] at e1
      cases e1
      have e4 := ints_of_struct he hf (by rw [hce, hfs]) e2
      rw [hce] at e4
      have e5 := congrArg (fun l => l[q % s]?) e4
      have hqs : q % s < s := Nat.mod_lt _ hs0
      have hdm : q / s * s + q % s = q := by rw [Nat.mul_comm]; exact Nat.div_add_mod q s
      simpa [List.getElem?_take, List.getElem?_drop, hqs, hdm, List.getElem?_map, hq] using e5
  have hsz : zs.length ≤ c.size := by
    rcases Nat.lt_or_ge c.size zs.length with q | q
    · have := cell c.size zs[c.size] (List.getElem?_eq_getElem q)
      simp at this
    · exact q
  refine ⟨c, fr, hc, ⟨by simp [intsOf]; omega, fun i v v' e1 e2 => ?_⟩, by simpa [intsOf] using hsz⟩
  simp only [intsOf, List.getElem?_map, Option.map_eq_some_iff] at e1
  obtain ⟨z, e1, rfl⟩ := e1
  have := cell i z e1
  rw [List.getElem?_take] at e2
  split at e2
  · rw [this] at e2; cases e2; exact .int k z
  · cases e2

theorem rowIs_err {g : Nat} {t : TypeId} {ms : Array (String × TypeId)} {nm : String} {d : DataW Unit} {n : String} (hs : ∃ c fr, w.heap[g]? = some (.cells c t fr)) (hn : P.globalNamed n = some g) (hty : (P.globals[g]?).map (·.type) = some t)
    (ht : P.underlying t = some (.interface ms)) (hr : VarReads P w n (.iface nm d)) {u0 : TypeId} (hu : ∀ u, P.typeName? 3 u = some nm → u = u0) : RowIs w g t [.iface u0 .any] := by
  obtain ⟨g', t', cs, fuel, p, h1, h2, h3, h4⟩ := hr
  obtain rfl := Option.some.inj (hn.symm.trans h1)
  obtain rfl := Option.some.inj (hty.symm.trans h2)
  obtain ⟨_, u, v, hcs, hnm, _⟩ := iface_of_trod ht h4
  obtain rfl := hu u hnm
  obtain ⟨c, fr, hc⟩ := hs
  obtain rfl := var_row hn h3 hc
  exact rowIs_of hc (by rw [hcs]; exact .cons (.iface _ _ _ (.any _)) (.nil _))

theorem rowIs_int {g : Nat} {t : TypeId} {k : IntKind} (hs : ∃ c fr, w.heap[g]? = some (.cells c t fr)) (h : ∃ m, w.cell? ⟨g, 0, none⟩ = some (.int k m)) : ∃ z, RowIs w g t [.int k z] := by
  obtain ⟨c, fr, hc⟩ := hs
  obtain ⟨z, hz⟩ := h
  have h0 : c[0]? = some (Value.int k z) := by
    have : (c[0]?) = w.cell? ⟨g, 0, none⟩ := by simp [World.cell?, hc]
    rw [this]; exact hz
  have h1 : 0 < c.size := (Array.getElem?_eq_some_iff.1 h0).1
  refine ⟨z, c, fr, hc, ?_, h1⟩
  have : c.toList.take 1 = [.int k z] := by
    rw [← Array.getElem?_toList] at h0
    cases hl : c.toList with
    | nil => rw [hl] at h0; cases h0
    | cons x r => rw [hl] at h0; cases h0; rfl
  show VsRel _ _ (c.toList.take 1)
  rw [this]
  exact .cons (.int k z) (.nil _)
end
end Ev
end Go.Proofs.YtfddpaljmihinaaGreatDoor
