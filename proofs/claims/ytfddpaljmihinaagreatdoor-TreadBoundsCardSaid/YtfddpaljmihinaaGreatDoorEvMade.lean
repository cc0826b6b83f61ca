/-
  The operations that make one block. (Conditions: the tables tell of the program what is so; the memories are related.)
-/
import Derived.Test.YtfddpaljmihinaaGreatDoorEvStep
import Derived.Laws.MakeOwn
import Derived.Lib.ConvBytes
namespace Go.Proofs.YtfddpaljmihinaaGreatDoor
namespace Ev
open Go
variable {D : Keep}

section
variable {P : Program} {r : Ren} {w : World} {T : Tab} (hT : TabOk T P)

theorem run_newRow (e : TypeId) (cs : Array Value) : (newRow e cs).run P w = .ok ⟨w.heap.size, 0, none⟩ { w with heap := w.heap.push (.cells cs e) } := by
  simp [newRow]
theorem run_newVar (e : TypeId) (v : Value) : (newVar e v).run P w = .ok ⟨w.heap.size, 0, none⟩ { w with heap := w.heap.push (.cells v.cells e) } := run_newRow e v.cells

theorem ptr_new {id : Nat} {n : Nat} : VRel (r.ext id ⟨w.heap.size, 0, n⟩) (.ptr id 0) (.pointer (some ⟨w.heap.size, 0, none⟩)) :=
  .ptr id 0 ⟨w.heap.size, 0, n⟩ (Ren.ext_same r id _)

theorem made_var {id : Nat} (hid : r.at_ id = none) (e : TypeId) {v : AVal} {v' : Value} (hv : VRel r v v') (h1 : v ≠ .any) (h2 : ∀ vs, v ≠ .tuple vs) :
    Made r id w (.cells e v.cells false 0 true) (.ptr id 0) (.pointer (some ⟨w.heap.size, 0, none⟩)) { w with heap := w.heap.push (.cells v'.cells e) } ⟨w.heap.size, 0, v'.cells.size⟩ := by
  have hc := hv.cells h1 h2
  have hl : v'.cells.size = v.cells.length := by have := hc.len; simpa using this
  refine made_row true (fr := (0, 0)) hid rfl rfl rfl rfl ?_ (by omega) (fun j _ h => by simp at h) ptr_new (fun _ => hl)
  rw [← hl, List.take_of_length_le (by simp)]
  exact hc

theorem repeatCells_length (z : List AVal) : ∀ n, (repeatCells z n).length = n * z.length
  | 0 => by simp [repeatCells]
  | n + 1 => by simp [repeatCells, repeatCells_length z n, Nat.succ_mul, Nat.add_comm]
theorem repeatCells_get (z : List AVal) : ∀ (n i : Nat) v, (repeatCells z n)[i]? = some v → z[i % z.length]? = some v
  | 0, i, v, h => by simp [repeatCells] at h
  | n + 1, i, v, h => by
    simp only [repeatCells] at h
    rw [List.getElem?_append] at h
    by_cases c : i < z.length
    · rw [if_pos c] at h
      rw [Nat.mod_eq_of_lt c]; exact h
    · rw [if_neg c] at h
      have := repeatCells_get z n (i - z.length) v h
      rw [← this]
      congr 1
      conv => lhs; rw [← Nat.sub_add_cancel (Nat.le_of_not_lt c)]
      rw [Nat.add_mod_right]

/-- Zero cells, again and again. -/
theorem repeat_rel {z : List AVal} {z' : Array Value} (hz : VsRel r z z'.toList) (k n : Nat) (hn : n = k * z.length) :
    VsRel r (repeatCells z k) ((Array.range n).map (z'[· % z'.size]!)).toList := by
  have hs : z'.size = z.length := by have := hz.len; simpa using this
  refine ⟨by simp [repeatCells_length, hn], fun i v v' a b => ?_⟩
  have h1 := repeatCells_get z k i v a
  obtain ⟨u', h2, h3⟩ := hz.get h1
  simp only [Array.toList_map, Array.toList_range, List.getElem?_map, Option.map_eq_some_iff] at b
  obtain ⟨j, hj, rfl⟩ := b
  have : j = i := by
    rw [List.getElem?_range] at hj
    · exact (Option.some.inj hj).symm
    · rcases Nat.lt_or_ge i n with c | c
      · exact c
      · rw [List.getElem?_eq_none (by simpa using c)] at hj; cases hj
  subst this
  rw [hs]
  have e : z'[j % z.length]! = u' := by
    rw [Array.getElem?_toList] at h2
    simp [Array.getElem!_eq_getD, Array.getD_eq_getD_getElem?, h2]
  rw [e]
  exact h3

theorem VRel.fine_cells {v : AVal} {v' : Value} (h : VRel r v v') (hf : v.fine = true) : VsRel r v.cells v'.cells.toList :=
  h.cells (by intro e; subst e; cases hf) (by intro vs e; subst e; cases hf)

theorem fillOp_length {place : Nat → Option (Nat × Nat)} : ∀ {parts : List (Nat × AVal)} {cs out : List AVal}, fillOp place cs parts = some out → out.length = cs.length := by
  intro parts
  induction parts with
  | nil => intro cs out h; cases h; rfl
  | cons p rest ih =>
    intro cs out h
    obtain ⟨i, v⟩ := p
    simp only [fillOp] at h
    split at h
    · cases h
    · rename_i off size hp
      have key : (Nat.beq v.cells.length size && Nat.ble (off + v.cells.length) cs.length) = true ∧ fillOp place (over cs off v.cells) rest = some out := by
        split at h
        · cases h
        · cases h
        · split at h
          · rename_i hb; exact ⟨hb, h⟩
          · cases h
      obtain ⟨hb, h⟩ := key
      rw [Bool.and_eq_true] at hb
      have hb2 := Nat.le_of_ble_eq_true hb.2
      rw [ih h]
      simp [over]
      omega

include hT in
theorem buildSlice_made {id : Nat} (hid : r.at_ id = none) {n : Nat} {t : Tree AVal} {a : Act} (hg : GlobOk T r) (ht : TRel D r t n a) {st : TypeId} {len : Nat} {parts : Array (Nat × Operand)} {v : AVal} {k : ABlk}
    (h : evA T t id (.buildSlice st len parts) = some (v, k)) :
    ∃ v' w' B, (Instr.buildSlice st len (parts.map fun (i, x) => (i, a.eval x))).run P w = .ok v' w' ∧ Made r id w k v v' w' B := by
  simp only [evA] at h
  split at h
  · rename_i e hd
    split at h
    · rename_i m z hn hz
      split at h
      · rename_i hb
        rw [Bool.and_eq_true] at hb
        have hb3 := hb.2
        have hb := hb.1
        rw [Bool.and_eq_true] at hb
        have hb1 := Nat.le_of_ble_eq_true hb.1
        have hb2 : z.cells.length = m := Nat.eq_of_beq_eq_true hb.2
        obtain ⟨z', ez, hzz⟩ := run_zero hT hz w
        have hzr : VRel r z z' := by rw [hzz]; exact absV_rel r z'
        obtain ⟨p1, p2⟩ := parts_rel (T := T) hg ht parts
        cases hf : fillOp (fun i => some (i * m, m)) (repeatCells z.cells len) (parts.toList.map fun p => (p.1, ev T t p.2)) with
        | none => rw [hf] at h; cases h
        | some cs =>
          rw [hf] at h
          cases h
          have hzc := hzr.fine_cells hb3
          obtain ⟨zc, hq, hrel⟩ : ∃ zc : Array Value, ((len * m = 0 ∧ zc = #[]) ∨ (¬ len * m = 0 ∧ zc = z'.cells)) ∧
              VsRel r (repeatCells z.cells len) ((Array.range (len * m)).map (zc[· % zc.size]!)).toList := by
            by_cases hz0 : len * m = 0
            · refine ⟨#[], .inl ⟨hz0, rfl⟩, by simp [repeatCells_length, hb2], fun i u u' a1 b1 => ?_⟩
              rw [hz0] at b1; simp at b1
            · exact ⟨z'.cells, .inr ⟨hz0, rfl⟩, repeat_rel hzc len (len * m) (by rw [hb2])⟩
          obtain ⟨out', ho, hr⟩ := fillOp_ok hrel p1 p2 hf
          have hlen : out'.size = cs.length := by have := hr.len; simpa using this
          have h24 : ¬ (2 ^ 24 < len * m) := by omega
          refine ⟨.slice (some ⟨w.heap.size, 0, none⟩) len len, { w with heap := w.heap.push (.cells out' e) }, ⟨w.heap.size, 0, out'.size⟩, ?_, ?_⟩
          · simp only [Instr.buildSlice, Sem.run_bind, run_und hT hd, run_size hT hn, Result.andThen_ok]
            rw [if_neg h24]
            rcases hq with ⟨h0, rfl⟩ | ⟨h0, rfl⟩
            · rw [if_pos h0]
              simp only [Sem.run_bind, Sem.run_pure, Result.andThen_ok, ho, run_newRow]
            · rw [if_neg h0]
              simp only [Sem.run_bind, Sem.run_pure, ez, Result.andThen_ok, ho, run_newRow]
          · refine made_row false (fr := (0, 0)) hid rfl rfl rfl rfl ?_ (by omega) (fun j _ h => by simp at h) ?_ (fun h => Bool.noConfusion h)
            · rw [← hlen, List.take_of_length_le (by simp)]; exact hr
            · refine .slice id 0 len m (.exact len) _ _ len (Ren.ext_same r id _) rfl (Nat.le_refl _) (.inr ⟨rfl, ?_⟩)
              have := fillOp_length hf
              rw [repeatCells_length, hb2] at this
              simp only [Nat.zero_add]
              omega
      · cases h
    · cases h
  · cases h

include hT in
theorem makeSlice_made {id : Nat} (hid : r.at_ id = none) {n : Nat} {t : Tree AVal} {a : Act} (hg : GlobOk T r) (ht : TRel D r t n a) {st : TypeId} {l c : Operand} {v : AVal} {k : ABlk}
    (h : evA T t id (.makeSlice st l c) = some (v, k)) :
    ∃ v' w' B, (Instr.makeSlice st (a.eval l) (a.eval c)).run P w = .ok v' w' ∧ Made r id w k v v' w' B := by
  simp only [evA] at h
  split at h
  · rename_i e k1 lv k2 cv hd hl hc
    have hl2 := ev_rel (T := T) hg ht l
    rw [hl] at hl2
    have hc2 := ev_rel (T := T) hg ht c
    rw [hc] at hc2
    rw [hl2.int_inv, hc2.int_inv]
    split at h
    · rename_i i z hi hz
      split at h
      · rename_i hb
        obtain ⟨b1, b2, b3, b4⟩ := hb
        split at h
        · rename_i hzl
          rw [Bool.and_eq_true] at hzl
          have hb2 : z.cells.length = i.size := Nat.eq_of_beq_eq_true hzl.1
          cases h
          obtain ⟨z', hiz, hzz⟩ : ∃ z', i.zero = some z' ∧ z = absV z' := by
            unfold Tab.zero at hz
            rw [hi] at hz
            simp only at hz
            split at hz
            · rename_i z' hzz; cases hz; exact ⟨z', hzz, rfl⟩
            · cases hz
          have hzr : VRel r z z' := by rw [hzz]; exact absV_rel r z'
          have hzc := hzr.fine_cells hzl.2
          have hrel := repeat_rel hzc cv.toNat (cv.toNat * i.size) (by rw [hb2])
          refine ⟨_, _, ⟨w.heap.size, 0, ((Array.range (cv.toNat * i.size)).map (z'.cells[· % z'.cells.size]!)).size⟩,
            run_make w st e i z' (hT.und hd) (hT.info _ _ hi) hiz k1 k2 lv cv b1 b2 (by omega) (by omega), ?_⟩
          · refine made_row false (fr := (0, 0)) (cs := (Array.range (cv.toNat * i.size)).map (z'.cells[· % z'.cells.size]!)) hid rfl rfl rfl rfl ?_ (by simp [repeatCells_length, hb2]) (fun j _ h => by simp at h) ?_ (fun h => Bool.noConfusion h)
            · rw [repeatCells_length, hb2, List.take_of_length_le (by simp)]; exact hrel
            · refine .slice id 0 _ i.size (.exact cv.toNat) _ _ cv.toNat (Ren.ext_same r id _) rfl (by omega) (.inr ⟨rfl, ?_⟩)
              simp
        · cases h
      · cases h
    · cases h
  · cases h

theorem heap_push {w w' : World} {o : Obj} (h1 : ∀ j, j < w.heap.size → w'.heap[j]? = w.heap[j]?) (h2 : w'.heap[w.heap.size]? = some o) (h3 : w'.heap.size = w.heap.size + 1) : w'.heap = w.heap.push o := by
  apply Array.ext_getElem?
  intro j
  rw [Array.getElem?_push]
  by_cases e : j = w.heap.size
  · rw [if_pos e, e, h2]
  · rw [if_neg e]
    by_cases c : j < w.heap.size
    · exact h1 j c
    · rw [Array.getElem?_eq_none (by omega), Array.getElem?_eq_none (by omega)]

include hT in
/-- THE MAKING OPERATIONS. -/
theorem evA_ok {id : Nat} (hid : r.at_ id = none) {n : Nat} {t : Tree AVal} {a : Act} {o : Oper} {v : AVal} {k : ABlk} (hg : GlobOk T r) (ht : TRel D r t n a) (h : evA T t id o.op = some (v, k)) :
    ∃ v' w' B, (execOp a.eval o).run P w = .ok (.value v') w' ∧ Made r id w k v v' w' B := by
  have E := fun x => ev_rel (T := T) hg ht x
  have lift : ∀ {x : Sem Value}, execOp a.eval o = (do pure (.value (← x))) → (∃ v' w' B, x.run P w = .ok v' w' ∧ Made r id w k v v' w' B) →
      ∃ v' w' B, (execOp a.eval o).run P w = .ok (.value v') w' ∧ Made r id w k v v' w' B := by
    intro x e ⟨v', w', B, e1, hm⟩
    exact ⟨v', w', B, by rw [e]; simp [e1], hm⟩
  cases ho : o.op with
  | alloc e =>
    rw [ho] at h
    simp only [evA] at h
    split at h
    · cases h
    · cases h
    · cases h
    · rename_i z h1 h2 hz
      cases h
      obtain ⟨z', ez, hzz⟩ := run_zero hT hz w
      have hzr : VRel r z z' := by rw [hzz]; exact absV_rel r z'
      exact lift (x := Instr.alloc e true (.tuple #[])) (by simp only [execOp, ho]) ⟨_, _, _, by simp only [Instr.alloc, Sem.run_bind, ez, Result.andThen_ok, run_newVar, Sem.run_pure], made_var hid e hzr (fun c => h1 (by rw [c])) (fun vs c => h2 vs (by rw [c]))⟩
  | box e x =>
    rw [ho] at h
    simp only [evA] at h
    split at h
    · cases h
    · cases h
    · rename_i z h1 h2
      cases h
      exact lift (x := Instr.box e (a.eval x)) (by simp only [execOp, ho]) ⟨_, _, _, by simp only [Instr.box, Sem.run_bind, Result.andThen_ok, run_newVar, Sem.run_pure], made_var hid e (E x) h1 h2⟩
  | buildSlice st len parts => rw [ho] at h; exact lift (by simp only [execOp, ho]) (buildSlice_made hT hid hg ht h)
  | makeSlice st l c => rw [ho] at h; exact lift (by simp only [execOp, ho]) (makeSlice_made hT hid hg ht h)
  | makeMap mt m =>
    rw [ho] at h
    simp only [evA] at h
    have fin : ∀ x : Option Value, (Instr.makeMap mt x).run P w = .ok (.map (some w.heap.size)) { w with heap := w.heap.push (.map #[] 0) } → v = .map id → k = .map [] →
        ∃ v' w' B, (Instr.makeMap mt x).run P w = .ok v' w' ∧ Made r id w k v v' w' B := by
      intro x hx e1 e2
      subst e1; subst e2
      refine ⟨_, _, ⟨w.heap.size, 0, 0⟩, hx, rfl, ⟨_, rfl⟩, rfl, rfl, rfl, ⟨#[], 0, by simp, ⟨rfl, fun i e e' a => by simp at a⟩, MapKept.stamped_empty 0⟩, ?_, fun e vs ro frz h => by cases h⟩
      exact .map id ⟨w.heap.size, 0, 0⟩ (Ren.ext_same r id _)
    cases m with
    | none =>
      simp only [Option.some.injEq, Prod.mk.injEq] at h
      exact lift (x := Instr.makeMap mt none) (by simp only [execOp, ho]; rfl) (fin none (by simp [Instr.makeMap]) h.1.symm h.2.symm)
    | some x =>
      simp only at h
      split at h
      · rename_i kt et k1 n1 hd hx
        simp only [Option.some.injEq, Prod.mk.injEq] at h
        have hx2 := E x
        rw [hx] at hx2
        exact lift (x := Instr.makeMap mt (some (a.eval x))) (by simp only [execOp, ho]; rfl) (fin (some (a.eval x)) (by rw [hx2.int_inv]; simp [Instr.makeMap, run_und hT hd, asInt, asIntOf]) h.1.symm h.2.symm)
      · cases h
  | convert s d x =>
    rw [ho] at h
    simp only [evA] at h
    split at h
    · rename_i e l hs hd hx
      split at h
      · rename_i he
        split at h
        · rename_i hb
          cases h
          have hx2 := E x
          rw [hx] at hx2
          obtain ⟨s', es, el⟩ := hx2.str_inv
          have hlen : l.length = s'.size := by rw [← el, data_size]
          have hcap := grownCap_ge w s'.size 0 e
          have hsz : (Lib.bytesCells w e s').size = grownCap w s'.size 0 e := by
            simp only [Lib.bytesCells, Array.size_append, Array.size_map, Array.size_replicate]
            show s'.size + _ = _
            omega
          have hheap := heap_push (Lib.bytesWorld_at_old w e s') (Lib.bytesWorld_at_new w e s') (Lib.bytesWorld_size w e s')
          refine lift (x := Go.convert s d (a.eval x)) (by simp only [execOp, ho]) ⟨_, _, ⟨w.heap.size, 0, (Lib.bytesCells w e s').size⟩, by rw [es]; exact Lib.run_convert_string_bytes w s d e s' (hT.und hs) (hT.und hd) (hT.und he), ?_⟩
          refine made_row false (cs := Lib.bytesCells w e s') hid hheap rfl rfl rfl ?_ (by simp only [List.length_map]; omega) (fun j hj hc => by omega) ?_ (fun h => Bool.noConfusion h)
          · refine ⟨by simp only [List.length_map, List.length_take, Array.length_toList]; omega, fun i u u' a1 b1 => ?_⟩
            simp only [List.length_map] at b1
            rw [List.getElem?_map] at a1
            rw [List.getElem?_take] at b1
            split at b1
            · rename_i hi
              simp only [Lib.bytesCells, Array.toList_append, Array.toList_map] at b1
              rw [List.getElem?_append, if_pos (by simp only [List.length_map]; rw [el]; exact hi), List.getElem?_map, el] at b1
              cases hli : l[i]? with
              | none => rw [hli] at a1; cases a1
              | some c => rw [hli] at a1 b1; cases a1; cases b1; exact .int _ _
            · cases b1
          · rw [hlen]
            refine .slice id 0 _ 1 (.least s'.size) _ _ _ (Ren.ext_same r id _) hcap hcap (.inr ⟨rfl, ?_⟩)
            simp only
            omega
        · cases h
      · cases h
    · cases h
  | range xt x =>
    rw [ho] at h
    simp only [evA] at h
    split at h
    · rename_i l hd hx
      cases h
      have hx2 := E x
      rw [hx] at hx2
      obtain ⟨s', es, el⟩ := hx2.str_inv
      refine lift (x := Instr.range xt (a.eval x)) (by simp only [execOp, ho]) ⟨.pointer (some ⟨w.heap.size, 0, none⟩), { w with heap := w.heap.push (.stringIter s' 0) }, ⟨w.heap.size, 0, 0⟩, by rw [es]; simp [Instr.range, run_und hT hd], ?_⟩
      exact ⟨rfl, ⟨_, rfl⟩, rfl, rfl, rfl, ⟨rfl, s', by simp, el⟩, ptr_new, fun e vs ro frz h => by cases h⟩
    · cases h
  | _ => rw [ho] at h; cases h
end
end Ev
end Go.Proofs.YtfddpaljmihinaaGreatDoor
