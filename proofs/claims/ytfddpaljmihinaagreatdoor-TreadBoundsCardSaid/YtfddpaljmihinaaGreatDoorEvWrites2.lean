/-
  The writing operations in one theorem. (Conditions: the tables tell of the program what is so; the memories are related.)
-/
import Derived.Test.YtfddpaljmihinaaGreatDoorEvWrites
namespace Go.Proofs.YtfddpaljmihinaaGreatDoor
namespace Ev
open Go
variable {D : Keep}

section
variable {P : Program} {r : Ren} {w : World} {T : Tab} (hT : TabOk T P)

theorem nextOp_ok {m m' : AMem} (hm : MemRel r m.next m.get w) {x : AVal} {x' : Value} {s : Bool} {ty : TypeId} {v : AVal} (hx : VRel r x x') (h : nextOp m x s = .val v m') :
    ∃ v' w', (Instr.next x' s ty).run P w = .ok v' w' ∧ VRel r v v' ∧ Step r m.next m.get w r m'.next m'.get w' := by
  unfold nextOp at h
  split at h
  · rename_i b
    obtain ⟨B, hB, rfl⟩ := hx.ptr_inv
    split at h
    · rename_i str pos hg
      obtain ⟨B', hB', z0, s', q1, q2⟩ := hm.blk _ _ hg
      rw [hB] at hB'
      cases hB'
      have hs' : (⟨str.toArray⟩ : ByteArray) = s' := by
        apply WideShapes.bytes_inj
        rw [q2]
      have hsz : str.length = s'.size := by rw [← q2, data_size]
      split at h
      · rename_i hl
        have hl' : pos < str.length := Nat.le_of_ble_eq_true hl
        cases h
        have hlt := hm.inw b B hB
        refine ⟨.tuple #[.bool true, goInt pos, .int .i32 (Utf8.decode s' pos).1], { w with heap := w.heap.setIfInBounds B.cb (.stringIter s' (pos + (Utf8.decode s' pos).2)) }, ?_, ?_, ?_⟩
        · simp only [Instr.next, z0, Nat.add_zero, Sem.run_bind, run_getIter q1, Result.andThen_ok]
          rw [if_pos (by omega)]
          simp only [Sem.run_bind, run_setIter q1, Result.andThen_ok, Sem.run_pure]
        · rw [hs']
          exact .tupleOf (.cons (.bool _) (.cons (.int _ _) (.cons (.int _ _) (.nil r))))
        · rw [AMem.get_set, hs']
          refine step_upd hm hg rfl hB ⟨z0, s', ?_, q2⟩ (fun e vs ro frz h => by cases h) (by simp) rfl rfl rfl (fun cb hne => ?_)
          · simp [hlt]
          · simp [hne.symm]
      · rename_i hl
        cases h
        have hl' : ¬ pos < str.length := fun c => by
          have := Nat.ble_eq_true_of_le (show pos + 1 ≤ str.length from c)
          exact absurd hl (by rw [show Nat.blt pos str.length = true from this]; exact Bool.noConfusion)
        refine ⟨.tuple #[.bool false], w, ?_, .tupleOf (.cons (.bool _) (.nil r)), .refl hm⟩
        simp only [Instr.next, z0, Nat.add_zero, Sem.run_bind, run_getIter q1, Result.andThen_ok]
        rw [if_neg (by omega)]
        rfl
    · cases h
  · cases h

theorem lenOfA_ok {x : AVal} {x' : Value} {n : Nat} (hx : VRel r x x') (h : lenOfA x = some n) : (Builtin.lenOf x').run P w = .ok n w := by
  unfold lenOfA at h
  split at h
  · cases h; rw [hx.nslice_inv]; rfl
  · cases h; obtain ⟨B, a, c, hB, rfl, _⟩ := hx.slice_inv; rfl
  · cases h; obtain ⟨s', rfl, es⟩ := hx.str_inv; rw [← es, data_size]; rfl
  · cases h

theorem firstOf_ok {m : AMem} (hm : MemRel r m.next m.get w) {x : AVal} {x' : Value} {n k : Nat} {cs : List AVal} (hx : VRel r x x') (h : firstOf m n k x = some cs) :
    cs.length = k * n ∧ ∃ vs : List Value, VsRel r cs vs ∧ (Builtin.firstCells n k x').run P w = .ok vs.toArray w := by
  unfold firstOf at h
  split at h
  · rw [hx.nslice_inv]
    split at h
    · cases h; exact ⟨by simp, [], .nil r, rfl⟩
    · cases h
  · rename_i b o len e cap
    obtain ⟨B, a, c, hB, rfl, hc, hl, hr⟩ := hx.slice_inv
    split at h
    · rename_i hb
      rw [Bool.and_eq_true] at hb
      have he : e = n := Nat.eq_of_beq_eq_true hb.1
      subst he
      have hk := Nat.le_of_ble_eq_true hb.2
      obtain ⟨vs, v1, v2, v3⟩ := sliceRow_ok (P := P) (k := k * e) hm hB (hr.imp id (·.1)) (fun h0 => Nat.mul_eq_zero.2 (.inl (by omega))) rfl h
      exact ⟨v2, vs, v1, v3 w rfl⟩
    · cases h
  · rename_i s
    obtain ⟨s', rfl, es⟩ := hx.str_inv
    split at h
    · split at h
      · rename_i hb
        have hb := Nat.le_of_ble_eq_true hb
        cases h
        refine ⟨by simp; omega, (s.take k).map fun b => Value.int .u8 b.toNat, ?_, ?_⟩
        · refine ⟨by simp, fun i v v' a b => ?_⟩
          rw [List.getElem?_map] at a b
          cases hs : (s.take k)[i]? with
          | none => rw [hs] at a; cases a
          | some c => rw [hs] at a b; cases a; cases b; exact .int _ _
        · simp only [Builtin.firstCells, Sem.run_pure]
          congr 1
          apply Array.toList_inj.1
          rw [Array.toList_map, Lib.extract_data, List.drop_zero, Nat.sub_zero, es]
      · cases h
    · cases h
  · cases h

include hT in
theorem copyOp_ok {m m' : AMem} (hm : MemRel r m.next m.get w) {ts : Array TypeId} {ty : TypeId} {args : List AVal} {args' : Array Value} {v : AVal} (ha : VsRel r args args'.toList)
    (h : copyOp T m ts args = .val v m') : ∃ v' w', (Builtin.copy_ ts ty args').run P w = .ok v' w' ∧ VRel r v v' ∧ Step r m.next m.get w r m'.next m'.get w' := by
  unfold copyOp at h
  split at h
  · rename_i d x dt h0
    obtain ⟨d', rest, es, hd', ha2⟩ := ha.cons_inv
    obtain ⟨x', rest2, ex, hx, ha3⟩ := ha2.cons_inv
    rw [ha3.nil_inv] at ex
    rw [ex] at es
    have a0 : args'[0]? = some d' := by rw [← Array.getElem?_toList, es]; rfl
    have a1 : args'[1]? = some x' := by rw [← Array.getElem?_toList, es]; rfl
    split at h
    · rename_i e hd
      split at h
      · rename_i n xl b o len esz cap hn hxl
        obtain ⟨B, a, c, hB, rfl, hc, hl, hr⟩ := hd'.slice_inv
        split at h
        · rename_i cs he hfo
          have he : esz = n := Nat.eq_of_beq_eq_true he
          subst he
          obtain ⟨f1, vs, f2, f3⟩ := firstOf_ok (P := P) hm hx hfo
          have hlen := lenOfA_ok (P := P) (w := w) hx hxl
          have key : ∀ w', (storeCells a vs).run P w = .ok () w' → (Builtin.copy_ ts ty args').run P w = .ok (goInt (min xl len : Nat)) w' := by
            intro w' hst
            have f3' : (Builtin.firstCells esz (Nat.min xl len) x').run P w = .ok vs.toArray w := f3
            simp [Builtin.copy_, h0, a0, a1, run_und hT hd, hlen, run_size hT hn, f3', hst]
          split at h
          · cases h
            have := f2.nil_inv
            subst this
            refine ⟨_, w, key w rfl, .int _ _, .refl hm⟩
          · rename_i c0 cs0
            split at h
            · rename_i eb vs0 frz wh hg
              split at h
              · rename_i hb
                cases h
                simp only [Bool.and_eq_true] at hb
                obtain ⟨⟨b1, b2⟩, b3⟩ := hb
                have b2 := Nat.le_of_ble_eq_true b2
                have b3 := Nat.le_of_ble_eq_true b3
                have hk : min xl len ≠ 0 := by intro e; rw [e, Nat.zero_mul] at f1; simp at f1
                rcases hr with hr | ⟨ha', hroom⟩
                · omega
                · obtain ⟨B', hB', c1, fr, q1, q2, q3, q4, q5⟩ := hm.blk _ _ hg
                  rw [hB] at hB'
                  cases hB'
                  obtain ⟨w', e2, e3⟩ := write_row (P := P) hm hg hB f2 b1 b2 (by omega) (by omega)
                  rw [← ha'] at e2
                  exact ⟨_, w', key w' e2, .int _ _, by rw [AMem.get_set]; exact e3⟩
              · cases h
            · cases h
        · cases h
      · cases h
    · cases h
  · cases h

theorem bytesOf_int : ∀ {cs : List AVal} {l : List UInt8} {j : Nat} {v : AVal}, bytesOf cs = some l → cs[j]? = some v → ∃ y, v = .int .u8 y := by
  intro cs
  induction cs with
  | nil => intro l j v _ h; simp at h
  | cons c cs ih =>
    intro l j v e h
    unfold bytesOf at e
    split at e
    · cases ‹_ :: _ = []›
    · rename_i n rest heq
      cases heq
      split at e
      · rename_i l' hl
        cases j with
        | zero => simp at h; exact ⟨n, h.symm⟩
        | succ j => exact ih hl (by simpa using h)
      · cases e
    · cases e

theorem liesAt_row {e : TypeId} (hc : P.cellsOf e = 1) (count o n : Nat) (hn : o + n ≤ count) : liesAt P P.depth e count o e n = true := by
  have hd : P.depth = (2 * (P.types.size + Made.depth) + 1) + 1 := rfl
  rw [hd]
  simp only [liesAt, Bool.or_eq_true]
  left
  rw [hd]
  simp [rowAt, hc, hn, sameLayout, Nat.mod_one]

theorem run_loadBytes_cells : ∀ (ns : List Int) (a : Addr) (acc : ByteArray), (∀ (j : Nat) x, ns[j]? = some x → w.cell? (a.add j) = some (.int .u8 x)) →
    ∃ s, (loadBytes a acc ns.length).run P w = .ok s w ∧ s.data.toList = acc.data.toList ++ ns.map fun n => UInt8.ofNat n.toNat := by
  intro ns
  induction ns with
  | nil => intro a acc h; exact ⟨acc, rfl, by simp⟩
  | cons n ns ih =>
    intro a acc h
    have h0 : w.cell? a = some (.int .u8 n) := by
      have := h 0 n rfl
      simpa [Addr.add] using this
    obtain ⟨s, h1, h2⟩ := ih (a.add 1) (acc.push n.toNat.toUInt8) (fun j y hy => by
      have := h (j + 1) y (by simpa using hy)
      have e : (a.add 1).add j = a.add (j + 1) := by
        unfold Addr.add
        by_cases hj : j = 0
        · subst hj; simp
        · simp [hj]; omega
      rw [e]; exact this)
    refine ⟨s, ?_, ?_⟩
    · simp only [List.length_cons, loadBytes, Sem.run_bind, run_load, h0, Result.andThen_ok]
      exact h1
    · rw [h2]; simp [ByteArray.push]

theorem unsafeString_none (pt it ty : TypeId) (k : IntKind) (z : Int) : Builtin.unsafeString_ #[pt, it] ty #[.pointer none, .int k z] =
    (do
      let n ← asInt (.int k z)
      if n < 0 then runtimePanic (.error "unsafe.String: len out of range")
      if n > IntKind.i64.max then unsupported (.unsafePointer "String: a length above the largest int")
      if n = 0 then pure (.string .empty)
      else runtimePanic (.error "unsafe.String: ptr is nil and len is not zero")) := rfl

theorem unsafeString_some (pt it ty : TypeId) (a : Addr) (k : IntKind) (z : Int) : Builtin.unsafeString_ #[pt, it] ty #[.pointer (some a), .int k z] =
    (do
      let n ← asInt (.int k z)
      if n < 0 then runtimePanic (.error "unsafe.String: len out of range")
      if n > IntKind.i64.max then unsupported (.unsafePointer "String: a length above the largest int")
      if n = 0 then pure (.string .empty)
      else if ← variablesAt a (← elemOf pt) n.toNat then do
        let s ← loadBytes a .empty n.toNat
        freeze a n.toNat
        pure (.string s)
      else unsupported (.unsafePointer "String: not so many bytes at ptr")) := rfl

theorem freeze_heap (w : World) (a : Addr) (n : Nat) (h : n ≠ 0) {c : Array Value} {e : TypeId} {fr : Nat × Nat} (hc : w.heap[a.block]? = some (.cells c e fr)) :
    (∃ fr', (w.freeze a n).heap[a.block]? = some (.cells c e fr')) ∧ (∀ j, j ≠ a.block → (w.freeze a n).heap[j]? = w.heap[j]?) ∧ (w.freeze a n).heap.size = w.heap.size ∧
      (w.freeze a n).os = w.os ∧ (w.freeze a n).tape = w.tape ∧ (w.freeze a n).output = w.output := by
  unfold World.freeze
  rw [if_neg h]
  refine ⟨?_, ?_, by simp, rfl, rfl, rfl⟩
  · simp only [Array.getElem?_modify, if_pos, hc, Option.map_some]
    exact ⟨_, rfl⟩
  · intro j hj
    simp only [Array.getElem?_modify]
    rw [if_neg (fun e => hj e.symm)]

include hT in
theorem unsafeStringOp_ok {m m' : AMem} (hm : MemRel r m.next m.get w) {ts : Array TypeId} {ty : TypeId} {args : List AVal} {args' : Array Value} {v : AVal} (ha : VsRel r args args'.toList)
    (h : unsafeStringOp T m ts args = .val v m') : ∃ v' w', (Builtin.unsafeString_ ts ty args').run P w = .ok v' w' ∧ VRel r v v' ∧ Step r m.next m.get w r m'.next m'.get w' := by
  have hmax : IntKind.i64.max = 9223372036854775807 := rfl
  unfold unsafeStringOp at h
  split at h
  · rename_i pt it k n hts
    obtain ⟨p', rest, es, hp, ha2⟩ := ha.cons_inv
    obtain ⟨n', rest2, en, hn, ha3⟩ := ha2.cons_inv
    rw [ha3.nil_inv] at en
    rw [en, hn.int_inv, hp.nptr_inv] at es
    have e1 : args' = #[.pointer none, .int k n] := Array.toList_inj.1 es
    have e2 : ts = #[pt, it] := Array.toList_inj.1 hts
    subst e1; subst e2
    by_cases c : n = 0
    · rw [if_pos c] at h
      cases h
      subst c
      refine ⟨.string .empty, w, ?_, .str _ _ rfl, .refl hm⟩
      rw [unsafeString_none]
      simp [asInt, asIntOf, hmax]
    · rw [if_neg c] at h; cases h
  · rename_i pt it b o k n hts
    obtain ⟨p', rest, es, hp, ha2⟩ := ha.cons_inv
    obtain ⟨n', rest2, en, hn, ha3⟩ := ha2.cons_inv
    obtain ⟨B, hB, ep⟩ := hp.ptr_inv
    rw [ha3.nil_inv] at en
    rw [en, hn.int_inv, ep] at es
    have e1 : args' = #[.pointer (some ⟨B.cb, B.base + o, none⟩), .int k n] := Array.toList_inj.1 es
    have e2 : ts = #[pt, it] := Array.toList_inj.1 hts
    subst e1; subst e2
    by_cases c : n = 0
    · rw [if_pos c] at h
      cases h
      subst c
      refine ⟨.string .empty, w, ?_, .str _ _ rfl, .refl hm⟩
      rw [unsafeString_some]
      simp [asInt, asIntOf, hmax]
    · rw [if_neg c] at h
      by_cases c2 : n < 0 ∨ n > 9223372036854775807
      · rw [if_pos c2] at h; cases h
      · rw [if_neg c2] at h
        split at h
        · rename_i e vs frz wh hg
          split at h
          · rename_i u hpt hsz
            split at h
            · rename_i cs heu hrow
              have heu : e = u := Nat.eq_of_beq_eq_true heu
              subst heu
              split at h
              · rename_i l hl
                cases h
                obtain ⟨B', hB', cc, fr, q1, q2, q3, q4, q5⟩ := hm.blk _ _ hg
                rw [hB] at hB'
                cases hB'
                obtain ⟨vs', v1, v2, v3⟩ := row_ok (P := P) hm hB hrow
                obtain ⟨ns, n1, n2⟩ := bytesOf_ok v1 hl
                have hlen : ns.length = n.toNat := by have := v1.len; rw [n1] at this; simp at this; omega
                have hsh := shape_of q1
                have hco : P.cellsOf e = 1 := by
                  obtain ⟨i, hi, h2⟩ := hT.size hsz
                  simp [Program.cellsOf, hi, h2]
                -- the cells
                have hro : o + n.toNat ≤ vs.length ∧ cs = (vs.drop o).take n.toNat := by
                  unfold rowOf at hrow
                  rw [hg] at hrow
                  simp only at hrow
                  split at hrow
                  · rename_i hb; cases hrow; exact ⟨Nat.le_of_ble_eq_true hb, rfl⟩
                  · cases hrow
                have hcell : ∀ (j : Nat) x, ns[j]? = some x → w.cell? ((⟨B.cb, B.base + o, none⟩ : Addr).add j) = some (.int .u8 x) := by
                  intro j x hj
                  rw [Addr_add, cell_of q1]
                  have hjl : j < ns.length := by
                    rcases Nat.lt_or_ge j ns.length with z | z
                    · exact z
                    · rw [List.getElem?_eq_none z] at hj; cases hj
                  have hv : vs[o + j]? = some (vs[o + j]'(by omega)) := List.getElem?_eq_getElem _
                  obtain ⟨x', g1, g2⟩ := q4.get hv
                  rw [List.getElem?_take, if_pos (by omega), List.getElem?_drop] at g1
                  have hcs : cs[j]? = some (vs[o + j]'(by omega)) :=
                    (congrArg (fun z => z[j]?) hro.2).trans (by rw [List.getElem?_take, if_pos (by omega), List.getElem?_drop, hv])
                  have hint : ∃ y, vs[o + j]'(by omega) = .int .u8 y := bytesOf_int hl hcs
                  obtain ⟨y, hy⟩ := hint
                  have := v1.at_ j _ (.int .u8 x) hcs (by rw [n1, List.getElem?_map, hj]; rfl)
                  rw [hy] at this g2
                  have e3 := this.int_inv
                  rw [g2.int_inv] at g1
                  rw [← Array.getElem?_toList, Nat.add_assoc, g1]
                  rw [e3]
                obtain ⟨s, s1, s2⟩ := run_loadBytes_cells (P := P) ns ⟨B.cb, B.base + o, none⟩ .empty hcell
                rw [hlen] at s1
                have hlies := liesAt_row (P := P) hco (cc.size / P.cellsOf e) (B.base + o) n.toNat (by rw [hco, Nat.div_one]; omega)
                have hnz : n.toNat ≠ 0 := by omega
                obtain ⟨⟨fr', f1⟩, f2, f3, f4, f5, f6⟩ := freeze_heap w ⟨B.cb, B.base + o, none⟩ n.toNat hnz q1
                refine ⟨.string s, w.freeze ⟨B.cb, B.base + o, none⟩ n.toNat, ?_, .str _ _ (by rw [s2, n2]; rfl), ?_⟩
                · rw [unsafeString_some]
                  have c3 : ¬ n < 0 := by omega
                  have c4 : ¬ (9223372036854775807 : Int) < n := by omega
                  simp [asInt, asIntOf, hmax, c3, c4, c, variablesAt, hsh, elemOf, run_und hT hpt, hlies, s1]
                · rw [AMem.get_set]
                  refine step_upd hm hg rfl hB ⟨cc, fr', f1, q2, q3, q4, fun h => Bool.noConfusion h⟩ ?_ f3 f4 f5 f6 f2
                  intro e2 vs2 ro2 frz2 h
                  cases h
                  exact hm.whole b B _ _ _ _ hg hB
              · cases h
            · cases h
          · cases h
        · cases h
  · cases h

/-- What a writing operation that calls nothing gives: a value, or nothing (then the temporary is undefined). -/
def GivesW (P : Program) (a : Act) (o : Oper) (w : World) (r : Ren) (m : AMem) (v : AVal) (m' : AMem) : Prop :=
  ∃ nx v' w' r', (execOp a.eval o).run P w = .ok nx w' ∧ (nx = .value v' ∨ nx = .skip ∧ v' = undef) ∧ VRel r' v v' ∧ Step r m.next m.get w r' m'.next m'.get w'

include hT in
/-- THE WRITING OPERATIONS. -/
theorem evW_ok {m m' : AMem} {n : Nat} {t : Tree AVal} {a : Act} {o : Oper} {v : AVal} (hg : GlobOk T r) (ht : TRel D r t n a) (hm : MemRel r m.next m.get w) (h : evW T t m o.op = .val v m') :
    GivesW P a o w r m v m' := by
  have E := fun x => ev_rel (T := T) hg ht x
  have L := fun xs => evList_rel (T := T) hg ht xs
  cases ho : o.op with
  | store u x y =>
    rw [ho] at h
    obtain ⟨rfl, w', e, hs⟩ := storeOp_ok hT hm (E x) (E y) h
    exact ⟨.skip, undef, w', r, by simp only [execOp, ho]; simp [e], .inr ⟨rfl, rfl⟩, .any _, hs⟩
  | mapUpdate mt x k y =>
    rw [ho] at h
    obtain ⟨rfl, w', e, hs⟩ := mapUpdateOp_ok hT hm (E x) (E k) (E y) h
    exact ⟨.skip, undef, w', r, by simp only [execOp, ho]; simp [e], .inr ⟨rfl, rfl⟩, .any _, hs⟩
  | next it s =>
    rw [ho] at h
    obtain ⟨v', w', e, hv, hs⟩ := nextOp_ok (P := P) hm (ty := o.type) (E it) h
    exact ⟨.value v', v', w', r, by simp only [execOp, ho]; simp [e], .inl rfl, hv, hs⟩
  | panic x =>
    rw [ho] at h
    simp only [evW] at h
    split at h <;> cases h
  | call c =>
    rw [ho] at h
    simp only [evW] at h
    split at h
    · split at h <;> cases h
    · rename_i hc
      obtain ⟨cs, e0⟩ := exec_builtin (a := a) ho hc
      obtain ⟨v', w', r', e, hv, hs⟩ := appendOp_ok hT hm (ty := o.type) (L c.args) h
      exact ⟨.value v', v', w', r', by rw [e0]; simp [builtin, e], .inl rfl, hv, hs⟩
    · rename_i hc
      obtain ⟨cs, e0⟩ := exec_builtin (a := a) ho hc
      obtain ⟨v', w', e, hv, hs⟩ := copyOp_ok hT hm (ty := o.type) (L c.args) h
      exact ⟨.value v', v', w', r, by rw [e0]; simp [builtin, e], .inl rfl, hv, hs⟩
    · rename_i hc
      obtain ⟨cs, e0⟩ := exec_builtin (a := a) ho hc
      obtain ⟨v', w', e, hv, hs⟩ := unsafeStringOp_ok hT hm (ty := o.type) (L c.args) h
      exact ⟨.value v', v', w', r, by rw [e0]; simp [builtin, e], .inl rfl, hv, hs⟩
    · cases h
  | _ => rw [ho] at h; cases h

/-- A panic of the program's own. -/
theorem evW_pan {m : AMem} {n : Nat} {t : Tree AVal} {a : Act} {o : Oper} {v : AVal} (hg : GlobOk T r) (ht : TRel D r t n a) (h : evW T t m o.op = .pan v) :
    ∃ v', (execOp a.eval o).run P w = .halt (.panic v') w ∧ VRel r v v' := by
  have E := fun x => ev_rel (T := T) hg ht x
  cases ho : o.op with
  | panic x =>
    rw [ho] at h
    simp only [evW] at h
    split at h
    · rename_i u y hx
      cases h
      have hx2 := E x
      rw [hx] at hx2
      obtain ⟨y', e, hy⟩ := hx2.iface_inv
      exact ⟨.iface u y', by simp only [execOp, ho]; simp [Instr.panic, e], .iface _ _ _ hy⟩
    · cases h
  | store u x y =>
    rw [ho] at h
    simp only [evW, storeOp] at h
    repeat' split at h
    all_goals cases h
  | mapUpdate mt x k y =>
    rw [ho] at h
    simp only [evW, mapUpdateOp] at h
    repeat' split at h
    all_goals cases h
  | next it s =>
    rw [ho] at h
    simp only [evW, nextOp] at h
    repeat' split at h
    all_goals cases h
  | call c =>
    rw [ho] at h
    simp only [evW] at h
    split at h
    · split at h <;> cases h
    · simp only [appendOp] at h
      repeat' split at h
      all_goals cases h
    · simp only [copyOp] at h
      repeat' split at h
      all_goals cases h
    · simp only [unsafeStringOp] at h
      repeat' split at h
      all_goals cases h
    · cases h
  | _ => rw [ho] at h; cases h

/-- A call of a function with a body. -/
theorem evW_call {m : AMem} {n : Nat} {t : Tree AVal} {a : Act} {o : Oper} {f : FuncId} {args : List AVal} (hg : GlobOk T r) (ht : TRel D r t n a) (h : evW T t m o.op = .call f args) :
    ∃ args' : Array Value, VsRel r args args'.toList ∧ execOp a.eval o = callFunc f args' := by
  have E := fun x => ev_rel (T := T) hg ht x
  have L := fun xs => evList_rel (T := T) hg ht xs
  cases ho : o.op with
  | call c =>
    rw [ho] at h
    simp only [evW] at h
    split at h
    · rename_i fo hc
      split at h
      · rename_i g first captured hf
        cases h
        have hf2 := E fo
        rw [hf] at hf2
        obtain ⟨f', c', e, h1, h2⟩ := hf2.func_inv
        refine ⟨f' ++ c.args.map a.eval ++ c', ?_, ?_⟩
        · rw [Array.toList_append, Array.toList_append]
          exact (h1.append (L c.args)).append h2
        · simp only [execOp, ho, resolve, hc, Deferred.ofValue, e]
          rfl
      · cases h
    · simp only [appendOp] at h
      repeat' split at h
      all_goals cases h
    · simp only [copyOp] at h
      repeat' split at h
      all_goals cases h
    · simp only [unsafeStringOp] at h
      repeat' split at h
      all_goals cases h
    · cases h
  | store u x y =>
    rw [ho] at h
    simp only [evW, storeOp] at h
    repeat' split at h
    all_goals cases h
  | mapUpdate mt x k y =>
    rw [ho] at h
    simp only [evW, mapUpdateOp] at h
    repeat' split at h
    all_goals cases h
  | next it s =>
    rw [ho] at h
    simp only [evW, nextOp] at h
    repeat' split at h
    all_goals cases h
  | panic x =>
    rw [ho] at h
    simp only [evW] at h
    split at h <;> cases h
  | _ => rw [ho] at h; cases h
end
end Ev
end Go.Proofs.YtfddpaljmihinaaGreatDoor
