/-
  The evaluator's memory: reading, making, writing, appending. (Conditions: none beyond what each theorem asks.)
-/
import Derived.Test.YtjmapihogpdocaaGreatDoorEvA
import Derived.MapKept
import Derived.Laws.BytesString
import Derived.Laws.MakeOwn
import Derived.Lib.ConvBytes
import Derived.Lib.FrozenHead
/-! ## EvMem -/
namespace Go.Proofs.YtjmapihogpdocaaGreatDoor
namespace Ev
open Go

def EntRel (r : Ren) (es : List (AVal × AVal)) (es' : List MapEntry) : Prop :=
  es'.length = es.length ∧ ∀ (i : Nat) e e', es[i]? = some e → es'[i]? = some e' → VRel r e.1 e'.key ∧ VRel r e.2 e'.val

def BlkRel (r : Ren) : ABlk → Blk → World → Prop
  | .cells e vs ro frz wh, B, w => ∃ c fr, w.heap[B.cb]? = some (.cells c e fr) ∧ c.size = B.size ∧ B.base + vs.length ≤ c.size ∧
      VsRel r vs ((c.toList.drop B.base).take vs.length) ∧ (ro = false → ∀ j, B.base + frz ≤ j → (j < c.size ∨ wh = true ∧ j = c.size) → ¬ (fr.1 ≤ j ∧ j < fr.2))
  | .map es bs ck, B, w => ∃ es', w.heap[B.cb]? = some (.map es' ck) ∧ EntRel r es es'.toList ∧ MapKept.Stamped es' ck ∧ es'.toList.map (·.born) = bs
  | .iter s pos, B, w => B.base = 0 ∧ ∃ s' : ByteArray, w.heap[B.cb]? = some (.stringIter s' pos) ∧ s'.data.toList = s
  | .miter m since seen last, B, w => B.base = 0 ∧ ∃ m', w.heap[B.cb]? = some (.mapIter m' since seen.toArray last) ∧
      match m with
      | none => m' = none
      | some b => ∃ Bm, r.at_ b = some Bm ∧ m' = some Bm.cb
  | .chan cap buf, B, w => B.base = 0 ∧ ∃ buf' s q, w.heap[B.cb]? = some (.chan cap buf' false s q false) ∧ VsRel r buf buf'.toList

theorem BlkRel.mono {r r' : Ren} (hle : r.le r') {k : ABlk} {B : Blk} {w w' : World} (h : BlkRel r k B w) (hw : w'.heap[B.cb]? = w.heap[B.cb]?) : BlkRel r' k B w' := by
  cases k with
  | cells e vs ro frz wh =>
    obtain ⟨c, fr, h1, h2, h3, h4, h5⟩ := h
    exact ⟨c, fr, by rw [hw, h1], h2, h3, h4.mono hle, h5⟩
  | map es bs ck =>
    obtain ⟨es', h1, ⟨h2, h3⟩, h4⟩ := h
    exact ⟨es', by rw [hw, h1], ⟨h2, fun i e e' a b => ⟨(h3 i e e' a b).1.mono hle, (h3 i e e' a b).2.mono hle⟩⟩, h4⟩
  | iter s pos =>
    obtain ⟨h0, s', h1, h2⟩ := h
    exact ⟨h0, s', by rw [hw, h1], h2⟩
  | miter m since seen last =>
    obtain ⟨h0, m', h1, h2⟩ := h
    refine ⟨h0, m', by rw [hw, h1], ?_⟩
    cases m with
    | none => exact h2
    | some b => obtain ⟨Bm, h3, h4⟩ := h2; exact ⟨Bm, hle _ _ h3, h4⟩
  | chan cap buf =>
    obtain ⟨h0, buf', s, q, h1, h2⟩ := h
    exact ⟨h0, buf', s, q, by rw [hw, h1], h2.mono hle⟩

/-- Memory: 'next' is above every name; 'g' says what is alive. -/
structure MemRel (r : Ren) (next : Nat) (g : Nat → Option ABlk) (w : World) : Prop where
  fresh : ∀ b B, r.at_ b = some B → b < next
  inw : ∀ b B, r.at_ b = some B → B.cb < w.heap.size
  blk : ∀ b k, g b = some k → ∃ B, r.at_ b = some B ∧ BlkRel r k B w
  inj : ∀ b1 k1 b2 k2 B1 B2, g b1 = some k1 → g b2 = some k2 → r.at_ b1 = some B1 → r.at_ b2 = some B2 → k1.writable = true → B1.cb = B2.cb → b1 = b2
  whole : ∀ b B e vs ro frz, g b = some (.cells e vs ro frz true) → r.at_ b = some B → B.base = 0 ∧ B.size = vs.length

section
variable {P : Program} {r : Ren} {next : Nat} {g : Nat → Option ABlk} {w : World}

theorem cell_of {B : Blk} {c : Array Value} {e : TypeId} {fr : Nat × Nat} (h : w.heap[B.cb]? = some (.cells c e fr)) (o : Nat) :
    w.cell? ⟨B.cb, o, none⟩ = c[o]? := by
  simp [World.cell?, h]

theorem run_loadCellsFrom : ∀ (vs : List Value) (a : Addr) (i : Nat) (acc : Array Value),
    (∀ (j : Nat) v, vs[j]? = some v → w.cell? (a.add (i + j)) = some v) → (loadCellsFrom a i vs.length acc).run P w = .ok (acc ++ vs.toArray) w := by
  intro vs
  induction vs with
  | nil => intro a i acc h; simp [loadCellsFrom]
  | cons v vs ih =>
    intro a i acc h
    have h0 := h 0 v rfl
    rw [Nat.add_zero] at h0
    simp only [List.length_cons, loadCellsFrom, Sem.run_bind, run_load, h0, Result.andThen_ok]
    rw [ih a (i + 1) (acc.push v) (fun j u e => by have := h (j + 1) u (by simpa using e); rw [show i + 1 + j = i + (j + 1) from by omega]; exact this)]
    congr 1
    apply Array.toList_inj.1
    simp

theorem run_loadCells (vs : List Value) (a : Addr) (n : Nat) (hn : vs.length = n) (h : ∀ (j : Nat) v, vs[j]? = some v → w.cell? (a.add j) = some v) :
    (loadCells a n).run P w = .ok vs.toArray w := by
  subst hn
  unfold loadCells
  rw [run_loadCellsFrom vs a 0 #[] (fun j v e => by rw [Nat.zero_add]; exact h j v e)]
  simp

/-- A row of cells: what the abstract memory says of it the machine reads. -/
theorem row_ok (hm : MemRel r next g w) {b o n : Nat} {cs : List AVal} {B : Blk} (hB : r.at_ b = some B) (h : rowOf g b o n = some cs) :
    ∃ vs : List Value, VsRel r cs vs ∧ cs.length = n ∧ ∀ w1 : World, w1.heap = w.heap → (loadCells ⟨B.cb, B.base + o, none⟩ n).run P w1 = .ok vs.toArray w1 := by
  unfold rowOf at h
  split at h
  · rename_i e vs ro frz wh hg
    split at h
    · rename_i hl
      cases h
      have hl' := Nat.le_of_ble_eq_true hl
      obtain ⟨B', hB', c, fr, h1, h2, h3, h4, h5⟩ := hm.blk _ _ hg
      rw [hB] at hB'
      cases hB'
      have hlen : ((vs.drop o).take n).length = n := by simp; omega
      refine ⟨(((c.toList.drop B.base).take vs.length).drop o).take n, (h4.drop o).take n, hlen, fun w1 hw1 => ?_⟩
      rw [← hw1] at h1
      refine run_loadCells _ _ _ (by simp; omega) (fun j v e => ?_)
      rw [Addr_add, cell_of h1]
      rw [List.getElem?_take] at e
      split at e
      · rw [List.getElem?_drop, List.getElem?_take] at e
        split at e
        · rw [List.getElem?_drop] at e
          rw [← Array.getElem?_toList, ← e]
          congr 1
          omega
        · cases e
      · cases e
    · cases h
  · cases h

variable {T : Tab} (hT : TabOk T P)

include hT in
theorem loadOp_ok (hm : MemRel r next g w) {t : TypeId} {x : AVal} {x' : Value} {v : AVal} (hx : VRel r x x') (h : loadOp T g t x = some v) :
    ∃ v', (Instr.loadAt t x').run P w = .ok v' w ∧ VRel r v v' := by
  unfold loadOp at h
  split at h
  · rename_i b o
    obtain ⟨B, hB, rfl⟩ := hx.ptr_inv
    split at h
    · rename_i hagg
      split at h
      · rename_i n hn
        cases hr : rowOf g b o n with
        | none => rw [hr] at h; cases h
        | some cs =>
          rw [hr] at h
          cases h
          obtain ⟨vs, h1, h2, h3⟩ := row_ok (P := P) hm hB hr
          exact ⟨.agg vs.toArray, by simp [Instr.loadAt, Instr.sureAddr, loadVar, run_isAgg hT hagg, run_size hT hn, h3 w rfl], .aggOf (by simpa using h1)⟩
      · cases h
    · rename_i hagg
      split at h
      · rename_i e vs ro frz wh hg
        obtain ⟨B', hB', c, fr, h1, h2, h3, h4, h5⟩ := hm.blk _ _ hg
        rw [hB] at hB'
        cases hB'
        obtain ⟨v', e1, hv⟩ := h4.get h
        have e2 : w.cell? ⟨B.cb, B.base + o, none⟩ = some v' := by
          rw [cell_of h1]
          rw [List.getElem?_take] at e1
          split at e1
          · rw [List.getElem?_drop] at e1
            rw [← Array.getElem?_toList, e1]
          · cases e1
        exact ⟨v', by simp [Instr.loadAt, Instr.sureAddr, loadVar, run_isAgg hT hagg, e2], hv⟩
      · cases h
    · cases h
  · cases h
end
end Ev
end Go.Proofs.YtjmapihogpdocaaGreatDoor

/-! ## EvRead -/
namespace Go.Proofs.YtjmapihogpdocaaGreatDoor
namespace Ev
open Go
variable {D : Keep}

section
variable {P : Program} {r : Ren} {next : Nat} {g : Nat → Option ABlk} {w : World}

theorem exec_builtin {a : Act} {o : Oper} {c : Call} {b : Builtin} (ho : o.op = .call c) (hc : c.callee = .builtin b) :
    ∃ cs, execOp a.eval o = builtin b c.argTypes o.type cs (c.args.map a.eval) := ⟨_, by simp only [execOp, ho, resolve, hc]; rfl⟩

theorem bytesOf_ok : ∀ {cs : List AVal} {l : List UInt8} {vs : List Value}, VsRel r cs vs → bytesOf cs = some l →
    ∃ ns : List Int, vs = ns.map (Value.int .u8) ∧ l = ns.map fun n => UInt8.ofNat n.toNat := by
  intro cs
  induction cs with
  | nil => intro l vs h e; cases e; exact ⟨[], h.nil_inv, rfl⟩
  | cons c cs ih =>
    intro l vs h e
    obtain ⟨v, vs', rfl, hv, hr⟩ := h.cons_inv
    unfold bytesOf at e
    split at e
    · cases ‹_ :: _ = []›
    · rename_i n rest heq
      cases heq
      split at e
      · rename_i l' hl
        cases e
        obtain ⟨ns, e1, e2⟩ := ih hr hl
        exact ⟨n :: ns, by rw [hv.int_inv, e1]; rfl, by rw [e2]; rfl⟩
      · cases e
    · cases e

theorem foldl_push : ∀ (ns : List Int) (s : ByteArray), (ns.foldl (fun r n => r.push (UInt8.ofNat n.toNat)) s).data.toList = s.data.toList ++ ns.map fun n => UInt8.ofNat n.toNat := by
  intro ns
  induction ns with
  | nil => intro s; simp
  | cons n ns ih => intro s; simp only [List.foldl_cons, ih]; simp [ByteArray.push]

/-- The cells of a slice, whatever its address where it is empty. -/
theorem sliceRow_ok (hm : MemRel r next g w) {b o n k : Nat} {cs : List AVal} {B : Blk} {a : Addr} {c : Nat} (hB : r.at_ b = some B)
    (ha : c = 0 ∨ a = ⟨B.cb, B.base + o, none⟩) (hk : c = 0 → k = 0) (hn : n = k) (h : rowOf g b o n = some cs) :
    ∃ vs : List Value, VsRel r cs vs ∧ cs.length = n ∧ ∀ w1 : World, w1.heap = w.heap → (loadCells a k).run P w1 = .ok vs.toArray w1 := by
  subst hn
  obtain ⟨vs, h1, h2, h3⟩ := row_ok (P := P) hm hB h
  rcases ha with h0 | h0
  · have hk0 := hk h0
    subst hk0
    have : cs = [] := List.length_eq_zero_iff.1 h2
    subst this
    have := h1.nil_inv
    subst this
    exact ⟨[], h1, rfl, fun _ _ => rfl⟩
  · subst h0
    exact ⟨vs, h1, h2, h3⟩

theorem run_getMap {b : Nat} {es : Array MapEntry} {clock : Nat} (h : w.heap[b]? = some (.map es clock)) : (getObj b).run P w = .ok (.map es clock) w := by
  simp [getObj, Sem.run, h]
theorem run_getChan {b cap s q : Nat} {buf : Array Value} {cl tm : Bool} (h : w.heap[b]? = some (.chan cap buf cl s q tm)) : (getObj b).run P w = .ok (.chan cap buf cl s q tm) w := by
  simp [getObj, Sem.run, h]
theorem run_getMiter {b since last : Nat} {m : Option Nat} {seen : Array Nat} (h : w.heap[b]? = some (.mapIter m since seen last)) : (getObj b).run P w = .ok (.mapIter m since seen last) w := by
  simp [getObj, Sem.run, h]
theorem run_getIter {b : Nat} {s : ByteArray} {pos : Nat} (h : w.heap[b]? = some (.stringIter s pos)) : (getObj b).run P w = .ok (.stringIter s pos) w := by
  simp [getObj, Sem.run, h]

theorem keyEq_ok {d : TypeDesc} {x y : AVal} {x' y' : Value} {b : Bool} (hx : VRel r x x') (hy : VRel r y y') (hns : ∀ fs, d ≠ .struct fs) (h : keyEq d x y = some b) : Instr.sameNow d x' y' = some b := by
  unfold keyEq at h
  split at h
  · rename_i k a k' c
    by_cases e : k = k'
    · rw [if_pos e] at h; cases h; subst e; rw [hx.int_inv, hy.int_inv]; simp [Instr.sameNow]
    · rw [if_neg e] at h; cases h
  · cases h
    obtain ⟨s1, rfl, e1⟩ := hx.str_inv
    obtain ⟨s2, rfl, e2⟩ := hy.str_inv
    simp only [Instr.sameNow]
    rw [bytesEq_eq, ← e1, ← e2, string_beq]
  · cases h; rw [hx.bool_inv, hy.bool_inv]; rfl
  · exact absurd rfl (hns _)
  · cases h

theorem cellEq_val {x k : AVal} {x' k' : Value} {b : Bool} (hx : VRel r x x') (hk : VRel r k k') (h : cellEq x k = some b) : (b = true → k' = x') ∧ (b = false → k' ≠ x') := by
  unfold cellEq at h
  split at h
  · rename_i k1 a k2 c
    by_cases e : k1 = k2
    · rw [if_pos e] at h
      subst e
      rw [hx.int_inv, hk.int_inv]
      cases h
      refine ⟨fun e => by simp at e; rw [e], fun e c => ?_⟩
      cases c
      simp at e
    · rw [if_neg e] at h; cases h
  · obtain ⟨s1, rfl, e1⟩ := hx.str_inv
    obtain ⟨s2, rfl, e2⟩ := hk.str_inv
    simp only [Option.some.injEq] at h
    rw [bytesEq_eq] at h
    subst h
    refine ⟨fun e => ?_, fun e c => ?_⟩
    · simp only [beq_iff_eq] at e
      have : s1.data = s2.data := by
        apply Array.toList_inj.1
        rw [e1, e2, e]
      cases s1; cases s2
      simp only at this
      rw [this]
    · cases c
      rw [← e1, ← e2] at e
      simp at e
  · cases h
    rw [hx.bool_inv, hk.bool_inv]
    refine ⟨fun e => by simp at e; rw [e], fun e c => ?_⟩
    cases c
    simp at e
  · cases h
theorem keyCells_val : ∀ {as bs : List AVal} {as' bs' : List Value} {b : Bool}, VsRel r as as' → VsRel r bs bs' → keyCells as bs = some b → (b = true → bs' = as') ∧ (b = false → bs' ≠ as') := by
  intro as
  induction as with
  | nil =>
    intro bs as' bs' b ha hb h
    cases bs with
    | nil => cases h; rw [ha.nil_inv, hb.nil_inv]; exact ⟨fun _ => rfl, fun e => by cases e⟩
    | cons y bs => cases h
  | cons x as ih =>
    intro bs as' bs' b ha hb h
    cases bs with
    | nil => cases h
    | cons y bs =>
      obtain ⟨x', t1, rfl, hx, ht1⟩ := ha.cons_inv
      obtain ⟨y', t2, rfl, hy, ht2⟩ := hb.cons_inv
      simp only [keyCells] at h
      split at h
      · rename_i he
        obtain ⟨i1, i2⟩ := ih ht1 ht2 h
        have e := (cellEq_val hx hy he).1 rfl
        subst e
        refine ⟨fun hb => by rw [i1 hb], fun hb c => i2 hb ?_⟩
        exact (List.cons.inj c).2
      · rename_i he
        cases h
        refine ⟨(fun e => by cases e), fun _ c => (cellEq_val hx hy he).2 rfl (List.cons.inj c).1⟩
      · cases h

theorem EntRel.head {e : AVal × AVal} {e' : MapEntry} {es : List (AVal × AVal)} {es' : List MapEntry} (h : EntRel r (e :: es) (e' :: es')) : VRel r e.1 e'.key ∧ VRel r e.2 e'.val := h.2 0 e e' rfl rfl
theorem EntRel.tail {e : AVal × AVal} {e' : MapEntry} {es : List (AVal × AVal)} {es' : List MapEntry} (h : EntRel r (e :: es) (e' :: es')) : EntRel r es es' :=
  ⟨by simpa using h.1, fun i u u' a b => h.2 (i + 1) u u' (by simpa using a) (by simpa using b)⟩

variable {T : Tab} (hT : TabOk T P)

theorem cellFits_check {d : TypeDesc} {x : AVal} {x' : Value} {t : TypeId} (n : Nat) (emp : Bool) (hu : P.underlying t = some d) (hx : VRel r x x') (h : cellFits d x = true) :
    (Instr.checkKey emp (n + 1) t x').run P w = .ok () w := by
  unfold cellFits at h
  split at h
  · obtain ⟨s, rfl, _⟩ := hx.str_inv; simp [Instr.checkKey, run_underlying hu]
  · rw [hx.int_inv]; simp [Instr.checkKey, run_underlying hu]
  · rw [hx.bool_inv]; simp [Instr.checkKey, run_underlying hu]
  · cases h

/-- What lies behind one more cell. -/
theorem at_drop {as' : Array Value} {k : Nat} {x' : Value} {t1 : List Value} (e1 : as'.toList.drop k = x' :: t1) : as'[k]? = some x' ∧ as'.toList.drop (k + 1) = t1 := by
  constructor
  · rw [← Array.getElem?_toList]
    have := congrArg (fun l => l[0]?) e1
    simpa [List.getElem?_drop] using this
  · have := congrArg (fun l => l.drop 1) e1
    simpa [List.drop_drop] using this

theorem keyFits_struct {fs : Array Field} {t : TypeId} {x : AVal} (h : keyFits T t (.struct fs) x = true) : ∃ cs, x = .agg cs ∧ T.eqs t = true ∧ keyFields T fs.toList cs 0 = true := by
  cases x with
  | agg cs =>
    simp only [keyFits] at h
    split at h
    · rename_i he; exact ⟨cs, rfl, he, h⟩
    · cases h
  | _ => cases h
theorem keyEq_struct {fs : Array Field} {x k : AVal} {b : Bool} (h : keyEq (.struct fs) x k = some b) : ∃ as bs, x = .agg as ∧ k = .agg bs ∧ keyCells as bs = some b := by
  cases x with
  | agg as => cases k with
    | agg bs => exact ⟨as, bs, rfl, rfl, h⟩
    | _ => cases h
  | _ => cases h

include hT in
theorem checkKey_ok {d : TypeDesc} {x : AVal} {x' : Value} {t : TypeId} (n : Nat) (emp : Bool) (hu : P.underlying t = some d) (hx : VRel r x x') (h : keyFits T t d x = true) :
    (Instr.checkKey emp (n + 1 + 1) t x').run P w = .ok () w := by
  by_cases hs : ∃ fs, d = .struct fs
  · obtain ⟨fs, rfl⟩ := hs
    have hk := keyFits_struct h
    clear h
    obtain ⟨cs, rfl, he, h⟩ := hk
    obtain ⟨q1, q2, q3⟩ := hT.eqs t he
    obtain ⟨as', rfl, h1⟩ := hx.agg_inv
    have hfo : P.fieldsOf t = fs := by simp [Program.fieldsOf, hu]
    rw [hfo] at q3
    have hcc := fun (d : TypeDesc) (u : TypeId) (c : AVal) (x' : Value) (hd : P.underlying u = some d) (hx : VRel r c x') (h : cellFits d c = true) => cellFits_check (P := P) (w := w) n emp hd hx h
    generalize n + 1 = N at hcc ⊢
    simp only [Instr.checkKey, Sem.run_bind, run_underlying hu, Result.andThen_ok]
    rw [← Array.forIn_toList]
    have h1' : VsRel r cs (as'.toList.drop 0) := by simpa using h1
    clear h1 hfo hu he hx
    generalize fs.toList = l at h q3 ⊢
    generalize 0 = k at h h1'
    induction l generalizing cs k with
    | nil => rfl
    | cons f l ih =>
      cases cs with
      | nil => simp [keyFields] at h
      | cons c cs =>
        simp only [keyFields] at h
        split at h
        · rename_i d e1 e2 e3
          split at h
          · rename_i hc
            have ho := Nat.eq_of_beq_eq_true e1
            obtain ⟨x', t1, e4, hx, ht1⟩ := h1'.cons_inv
            obtain ⟨g1, g2⟩ := at_drop e4
            simp only [List.all_cons, Bool.and_eq_true] at q3
            have hf : f.name ≠ "_" := by simpa using q3.1
            have hchk := hcc _ _ _ _ (hT.und e3) hx hc
            simp only [List.forIn_cons, Sem.run_bind, if_pos hf, ho, part_one (w := w) hT e2 g1, Result.andThen_ok, hchk, Sem.run_pure]
            exact ih cs q3.2 (k + 1) h (by rw [g2]; exact ht1)
          · cases h
        · cases h
  · unfold keyFits at h
    split at h
    · obtain ⟨s, rfl, _⟩ := hx.str_inv; simp [Instr.checkKey, run_underlying hu]
    · rw [hx.int_inv]; simp [Instr.checkKey, run_underlying hu]
    · rw [hx.bool_inv]; simp [Instr.checkKey, run_underlying hu]
    · exact (hs ⟨_, rfl⟩).elim
    · cases h

include hT in
/-- Two keys that are structs, asked. -/
theorem keyCells_ask (n : Nat) {as' bs' : Array Value} : ∀ {fs : List Field} {as bs : List AVal} {k : Nat} {b : Bool}, VsRel r as (as'.toList.drop k) → VsRel r bs (bs'.toList.drop k) → (fs.all fun f => f.name != "_") = true →
    keyFields T fs as k = true → keyCells as bs = some b → (Op.eqFields (n + 1) as' bs' fs).run P w = .ok b w := by
  intro fs
  induction fs with
  | nil =>
    intro as bs k b _ _ _ h h2
    cases as with
    | nil => cases bs with
      | nil => cases h2; rfl
      | cons y bs => cases h2
    | cons c as => simp [keyFields] at h
  | cons f fs ih =>
    intro as bs k b ha hb hn h h2
    cases as with
    | nil => simp [keyFields] at h
    | cons c as =>
      simp only [keyFields] at h
      split at h
      · rename_i d h1 h2' h3
        split at h
        · rename_i hc
          have ho := Nat.eq_of_beq_eq_true h1
          cases bs with
          | nil => cases h2
          | cons y bs =>
            obtain ⟨x', t1, e1, hx, ht1⟩ := ha.cons_inv
            obtain ⟨y', t2, e2, hy, ht2⟩ := hb.cons_inv
            obtain ⟨g1, g2⟩ := at_drop e1
            obtain ⟨g3, g4⟩ := at_drop e2
            simp only [List.all_cons, Bool.and_eq_true] at hn
            have hf : f.name ≠ "_" := by simpa using hn.1
            have hcell : ∀ {v : Bool}, cellEq c y = some v → eqCell d c y = some v := by
              intro v hv
              unfold cellFits at hc
              split at hc
              · unfold cellEq at hv; split at hv <;> simp_all [eqCell]
              · unfold cellEq at hv; split at hv <;> simp_all [eqCell]
              · unfold cellEq at hv; split at hv <;> simp_all [eqCell]
              · cases hc
            simp only [Op.eqFields, if_pos hf, ho, Sem.run_bind, part_one (w := w) hT h2' g1, part_one (w := w) hT h2' g3, Result.andThen_ok]
            simp only [keyCells] at h2
            split at h2
            · rename_i he
              rw [eqCell_ok (w := w) (hT.und h3) n hx hy (hcell he)]
              simp only [Result.andThen_ok, Bool.not_true, Bool.false_eq_true, if_false]
              exact ih (by rw [g2]; exact ht1) (by rw [g4]; exact ht2) hn.2 h h2
            · rename_i he
              cases h2
              rw [eqCell_ok (w := w) (hT.und h3) n hx hy (hcell he)]
              rfl
            · cases h2
        · cases h
      · cases h

include hT in
theorem findKey_run {d : TypeDesc} {t : TypeId} {x : AVal} {x' : Value} (hu : P.underlying t = some d) (hx : VRel r x x') (hfit : keyFits T t d x = true) {es : List (AVal × AVal)} {es' : List MapEntry} {res : Option (Nat × AVal)}
    (hrel : EntRel r es es') (h : findKey d x es 0 = some res) :
    (res = none ∧ (Instr.findKey t x' es').run P w = .ok none w) ∨ ∃ j v v', res = some (j, v) ∧ (Instr.findKey t x' es').run P w = .ok (some (j, v')) w ∧ VRel r v v' ∧ j < es.length := by
  by_cases hs : ∃ fs, d = .struct fs
  · obtain ⟨fs, rfl⟩ := hs
    have hask : ∀ {es : List (AVal × AVal)} {es' : List MapEntry} {i : Nat} {res : Option (Nat × AVal)}, EntRel r es es' → findKey (.struct fs) x es i = some res →
        (res = none ∧ (Instr.findAsking t x' es' i).run P w = .ok none w) ∨ ∃ j v v', res = some (j, v) ∧ (Instr.findAsking t x' es' i).run P w = .ok (some (j, v')) w ∧ VRel r v v' ∧ j < i + es.length := by
      intro es
      induction es with
      | nil =>
        intro es' i res h e
        have : es' = [] := by have := h.1; simpa using this
        subst this
        cases e
        exact .inl ⟨rfl, rfl⟩
      | cons p es ih =>
        intro es' i res h e
        cases es' with
        | nil => have := h.1; simp at this
        | cons p' es' =>
          obtain ⟨k, v⟩ := p
          simp only [findKey] at e
          have hh := h.head
          have heq : ∀ b, keyEq (.struct fs) x k = some b → (Op.equal t x' p'.key).run P w = .ok b w := by
            intro b hb
            obtain ⟨cs, rfl, he, hfit⟩ := keyFits_struct hfit
            obtain ⟨q1, q2, q3⟩ := hT.eqs t he
            obtain ⟨as', rfl, h1⟩ := hx.agg_inv
            obtain ⟨as, bs, c1, c2, hb⟩ := keyEq_struct hb
            cases c1
            subst c2
            obtain ⟨bs', e2, h2⟩ := hh.1.agg_inv
            rw [e2]
            have hfo : P.fieldsOf t = fs := by simp [Program.fieldsOf, hu]
            rw [hfo] at q3
            show (Op.equalIn (9998 + 1 + 1) t (.agg as') (.agg bs')).run P w = _
            rw [run_equalIn_struct w (9998 + 1) t as' bs' (by rw [hfo]; exact hu) q1, hfo]
            exact keyCells_ask (w := w) hT 9998 (k := 0) (by simpa using h1) (by simpa using h2) q3 hfit hb
          split at e
          · rename_i hk
            cases e
            exact .inr ⟨i, v, p'.val, rfl, by simp [Instr.findAsking, heq _ hk], hh.2, by simp⟩
          · rename_i hk
            rcases ih h.tail e with ⟨h1, h2⟩ | ⟨j, u, u', h1, h2, h3, h5⟩
            · exact .inl ⟨h1, by simp [Instr.findAsking, heq _ hk, h2]⟩
            · exact .inr ⟨j, u, u', h1, by simp [Instr.findAsking, heq _ hk, h2], h3, by simp; omega⟩
          · cases e
    have hnow : (Instr.findKey t x' es').run P w = (Instr.findAsking t x' es' 0).run P w := by
      cases es' with
      | nil => simp [Instr.findKey, run_underlying hu, Instr.findNow, Instr.findAsking]
      | cons p' es' =>
        have : Instr.findNow (.struct fs) x' (p' :: es') 0 = none := by
          simp only [Instr.findNow]
          have : Instr.sameNow (.struct fs) x' p'.key = none := rfl
          rw [this]
        simp [Instr.findKey, run_underlying hu, this]
    rcases hask hrel h with ⟨h1, h2⟩ | ⟨j, v, v', h1, h2, h3, h5⟩
    · exact .inl ⟨h1, by rw [hnow, h2]⟩
    · exact .inr ⟨j, v, v', h1, by rw [hnow, h2], h3, by omega⟩
  · have hns : ∀ k b, keyEq d x k = some b → ∀ y', VRel r k y' → Instr.sameNow d x' y' = some b := by
      intro k b hb y' hy
      refine keyEq_ok hx hy ?_ hb
      intro fs e
      exact hs ⟨fs, e⟩
    have hnow : ∀ {es : List (AVal × AVal)} {es' : List MapEntry} {i : Nat} {res : Option (Nat × AVal)},
        EntRel r es es' → findKey d x es i = some res →
        (res = none ∧ Instr.findNow d x' es' i = some none) ∨ ∃ j v v', res = some (j, v) ∧ Instr.findNow d x' es' i = some (some (j, v')) ∧ VRel r v v' ∧ i ≤ j ∧ j < i + es.length := by
      intro es
      induction es with
      | nil =>
        intro es' i res h e
        have : es' = [] := by have := h.1; simpa using this
        subst this
        cases e
        exact .inl ⟨rfl, rfl⟩
      | cons p es ih =>
        intro es' i res h e
        cases es' with
        | nil => have := h.1; simp at this
        | cons p' es' =>
          obtain ⟨k, v⟩ := p
          simp only [findKey] at e
          have hh := h.head
          split at e
          · rename_i hk
            cases e
            exact .inr ⟨i, v, p'.val, rfl, by simp [Instr.findNow, hns _ _ hk _ hh.1], hh.2, Nat.le_refl _, by simp⟩
          · rename_i hk
            rcases ih h.tail e with ⟨h1, h2⟩ | ⟨j, u, u', h1, h2, h3, h4, h5⟩
            · exact .inl ⟨h1, by simp [Instr.findNow, hns _ _ hk _ hh.1, h2]⟩
            · exact .inr ⟨j, u, u', h1, by simp [Instr.findNow, hns _ _ hk _ hh.1, h2], h3, by omega, by simp; omega⟩
          · cases e
    rcases hnow hrel h with ⟨h1, h2⟩ | ⟨j, v, v', h1, h2, h3, h4, h5⟩
    · exact .inl ⟨h1, by simp [Instr.findKey, run_underlying hu, h2]⟩
    · exact .inr ⟨j, v, v', h1, by simp [Instr.findKey, run_underlying hu, h2], h3, by omega⟩

theorem entries_ok (hm : MemRel r next g w) {x : AVal} {x' : Value} {es : List (AVal × AVal)} (hx : VRel r x x') (h : entriesOf g x = some es) :
    (x' = .map none ∧ es = []) ∨ ∃ b B es' clock, x = .map b ∧ r.at_ b = some B ∧ x' = .map (some B.cb) ∧ w.heap[B.cb]? = some (.map es' clock) ∧ EntRel r es es'.toList := by
  unfold entriesOf at h
  split at h
  · cases h; exact .inl ⟨hx.nmap_inv, rfl⟩
  · rename_i b
    obtain ⟨B, hB, rfl⟩ := hx.map_inv
    split at h
    · rename_i es2 bs ck hg
      cases h
      obtain ⟨B', hB', es', h1, h2, _⟩ := hm.blk _ _ hg
      rw [hB] at hB'
      cases hB'
      exact .inr ⟨b, B, es', ck, rfl, hB, rfl, h1, h2⟩
    · cases h
  · cases h

theorem lookup_run {t kt et : TypeId} {x' k' z' : Value} {ok : Bool} {es' : Array MapEntry} {res : Option (Nat × Value)}
    (hx : (x' = .map none ∧ es' = #[]) ∨ ∃ b clock, x' = .map (some b) ∧ w.heap[b]? = some (.map es' clock)) (hd : P.underlying t = some (.map kt et))
    (hck : (Instr.checkKey es'.isEmpty 10000 kt k').run P w = .ok () w) (hf : (Instr.findKey kt k' es'.toList).run P w = .ok res w)
    (hz : (zeroValue et).run P w = .ok z' w) :
    (Instr.lookup t x' k' ok).run P w = .ok (if ok then .tuple #[(match res with | some (_, v) => v | none => z'), .bool res.isSome] else (match res with | some (_, v) => v | none => z')) w := by
  rcases hx with ⟨rfl, rfl⟩ | ⟨b, clock, rfl, hh⟩
  · have hck : (Instr.checkKey true 10000 kt k').run P w = .ok () w := hck
    have hf : (Instr.findKey kt k' []).run P w = .ok res w := hf
    cases res with
    | none => cases ok <;> simp [Instr.lookup, run_underlying hd, hck, hf, hz]
    | some p => cases ok <;> simp [Instr.lookup, run_underlying hd, hck, hf]
  · cases res with
    | none => cases ok <;> simp [Instr.lookup, run_underlying hd, run_getMap hh, hck, hf, hz]
    | some p => cases ok <;> simp [Instr.lookup, run_underlying hd, run_getMap hh, hck, hf]

include hT in
theorem lookupOp_ok (hm : MemRel r next g w) {t : TypeId} {x k : AVal} {x' k' : Value} {ok : Bool} {v : AVal} (hx : VRel r x x') (hk : VRel r k k')
    (h : lookupOp T g t x k ok = some v) : ∃ v', (Instr.lookup t x' k' ok).run P w = .ok v' w ∧ VRel r v v' := by
  obtain ⟨N, hN⟩ : ∃ N, (10000 : Nat) = N + 1 + 1 := ⟨9998, rfl⟩
  have two : ∀ {a b : AVal} {a' b' : Value}, VRel r a a' → VRel r b b' → VRel r (.tuple [a, b]) (.tuple #[a', b']) := fun h k => .tupleOf (.cons h (.cons k (.nil r)))
  unfold lookupOp at h
  split at h
  · rename_i kt et hd
    split at h
    · rename_i d z hd2 hz
      split at h
      · cases h
      · rename_i es hes
        split at h
        · cases h
        · rename_i hfit
          obtain ⟨z', ez, hzz⟩ := run_zero hT hz w
          have hzr : VRel r z z' := by rw [hzz]; exact absV_rel r z'
          obtain ⟨es', hx2, hrel⟩ : ∃ es' : Array MapEntry, ((x' = .map none ∧ es' = #[]) ∨ ∃ b clock, x' = .map (some b) ∧ w.heap[b]? = some (.map es' clock)) ∧ EntRel r es es'.toList := by
            rcases entries_ok hm hx hes with ⟨h1, h2⟩ | ⟨b, B, es', clock, _, _, h1, h2, h3⟩
            · exact ⟨#[], .inl ⟨h1, rfl⟩, by rw [h2]; exact ⟨rfl, fun i e e' a => by simp at a⟩⟩
            · exact ⟨es', .inr ⟨_, clock, h1, h2⟩, h3⟩
          have hck := checkKey_ok (w := w) hT N es'.isEmpty (hT.und hd2) hk hfit
          rw [← hN] at hck
          split at h
          · rename_i j u hf
            cases h
            rcases findKey_run (w := w) hT (hT.und hd2) hk hfit hrel hf with ⟨h1, _⟩ | ⟨j', u0, u', h1, hfk, h3, _⟩
            · cases h1
            · cases h1
              refine ⟨_, lookup_run hx2 (hT.und hd) hck hfk ez, ?_⟩
              cases ok with
              | true => exact two h3 (.bool _)
              | false => exact h3
          · rename_i hf
            cases h
            rcases findKey_run (w := w) hT (hT.und hd2) hk hfit hrel hf with ⟨_, hfk⟩ | ⟨j', u0, u', h1, _⟩
            · refine ⟨_, lookup_run hx2 (hT.und hd) hck hfk ez, ?_⟩
              cases ok with
              | true => exact two hzr (.bool _)
              | false => exact hzr
            · cases h1
          · cases h
    · cases h
  · cases h

include hT in
theorem sliceArr_ok (hm : MemRel r next g w) {t : TypeId} {x : AVal} {x' : Value} {lo hi mx : Option AVal} {lo' hi' mx' : Option Value} {v : AVal}
    (hx : VRel r x x') (hlo : ORel r lo lo') (hhi : ORel r hi hi') (hmx : ORel r mx mx') (h : sliceArr T g t x lo hi mx = some v) :
    ∃ v', (Instr.sliceAt t x' lo' hi' mx').run P w = .ok v' w ∧ VRel r v v' := by
  unfold sliceArr at h
  split at h
  · rename_i n e b o hd
    obtain ⟨B, hB, rfl⟩ := hx.ptr_inv
    split at h
    · rename_i esz eb vs ro frz wh hn hg
      split at h
      · rename_i hl
        have hl' := Nat.le_of_ble_eq_true hl
        cases hmx with
        | some _ => simp at h
        | none =>
          simp only at h
          split at h
          · rename_i l h' hb
            cases h
            obtain ⟨b1, b2, b3⟩ := bounds2_ok (P := P) (w := w) (isSlice := false) hlo hhi hb (Nat.le_refl _) (Nat.le_refl _)
            obtain ⟨B', hB', c, fr, h1, h2, h3, h4, h5⟩ := hm.blk _ _ hg
            rw [hB] at hB'
            cases hB'
            refine ⟨_, by simp [Instr.sliceAt, run_und hT hd, Instr.sureAddr, b1, run_size hT hn]; rfl, ?_⟩
            have := piece_rel (r := r) (b := b) (o := o) (esz := esz) (B := B) (a := ⟨B.cb, B.base + o, none⟩) (c := n) (l := l) (h := h') (m := n) (cap' := .exact (n - l)) hB
              (.inr ⟨rfl, by omega⟩) b2 b3 (Nat.le_refl _) rfl
            by_cases e : n = l
            · rw [if_pos e] at this ⊢; exact this
            · rw [if_neg e] at this ⊢; exact this
          · cases h
      · cases h
    · cases h
  · cases h

theorem shape_of {B : Blk} {c : Array Value} {e : TypeId} {fr : Nat × Nat} (h : w.heap[B.cb]? = some (.cells c e fr)) : w.shape? B.cb = some (e, c.size) := by
  simp [World.shape?, h]

include hT in
theorem unsafeConv_ok (hm : MemRel r next g w) {src dst : TypeId} {x : AVal} {x' : Value} {v : AVal} (hx : VRel r x x') (h : unsafeConv T g src dst x = some v) :
    ∃ v', (Go.convert src dst x').run P w = .ok v' w ∧ VRel r v v' := by
  unfold unsafeConv at h
  split at h
  · rename_i t hs hd
    split at h
    · cases h
      rw [hx.nptr_inv]
      exact ⟨.pointer none, by simp [Go.convert, run_und hT hs, run_und hT hd, Conv.unsafePointer], .nptr⟩
    · rename_i b o
      obtain ⟨B, hB, rfl⟩ := hx.ptr_inv
      split at h
      · rename_i e vs ro frz wh n hg hn
        split at h
        · rename_i hl
          cases h
          have hl' : o < vs.length := Nat.le_of_ble_eq_true hl
          obtain ⟨B', hB', c, fr, q1, q2, q3, q4, q5⟩ := hm.blk _ _ hg
          rw [hB] at hB'
          cases hB'
          have hsh := shape_of q1
          have hno : ¬ (c.size ≤ B.base + o) := by omega
          refine ⟨_, ?_, .ptr b o B hB⟩
          simp [Go.convert, run_und hT hs, run_und hT hd, Conv.unsafePointer, Conv.seenAt, viewAt, hsh, cellsIn, run_size hT hn, hno]
        · cases h
      · cases h
    · cases h
  · rename_i u hs hd
    split at h
    · cases h
      rw [hx.nptr_inv]
      exact ⟨.pointer none, by simp [Go.convert, run_und hT hs, run_und hT hd, Conv.unsafePointer], .nptr⟩
    · rename_i b o
      obtain ⟨B, hB, rfl⟩ := hx.ptr_inv
      split at h
      · rename_i e vs ro frz n hg hn
        split at h
        · rename_i hl
          cases h
          obtain ⟨B', hB', c, fr, q1, q2, q3, q4, q5⟩ := hm.blk _ _ hg
          rw [hB] at hB'
          cases hB'
          obtain ⟨z1, z2⟩ := hm.whole b B _ _ _ _ hg hB
          have hsh := shape_of q1
          have hva : (variablesAt ⟨B.cb, B.base + o, none⟩ u 1).run P w = .ok true w := by
            rw [hT.prog] at hl
            simp only [variablesAt, Sem.run_bind, run_program, Result.andThen_ok, run_shape, hsh, Sem.run_pure]
            rw [z1, q2, z2, Nat.zero_add, hl]
          have hsa : (Conv.seenAt ⟨B.cb, B.base + o, none⟩).run P w = .ok ⟨B.cb, B.base + o, none⟩ w := by simp [Conv.seenAt, viewAt, hsh]
          have hn := run_size hT hn w
          refine ⟨_, ?_, .ptr b o B hB⟩
          have e1 : (Go.convert src dst (.pointer (some ⟨B.cb, B.base + o, none⟩))).run P w = (Conv.unsafePointer src dst (.pointer (some ⟨B.cb, B.base + o, none⟩))).run P w := by
            simp [Go.convert, run_und hT hs, run_und hT hd]
          rw [e1]
          by_cases hz : n = 0
          · subst hz
            simp [Conv.unsafePointer, run_und hT hs, run_und hT hd, hsa, hn, hva]
          · simp [Conv.unsafePointer, run_und hT hs, run_und hT hd, hsa, hn, hz, hva]
        · cases h
      · cases h
    · cases h
  · cases h

theorem entryOp_ok (hm : MemRel r next g w) {x : AVal} {x' : Value} {v : AVal} (hx : VRel r x x') (h : entryOp g x = some v) :
    ∃ v', (Instr.entry x').run P w = .ok v' w ∧ VRel r v v' := by
  unfold entryOp at h
  split at h
  · rename_i b
    obtain ⟨B, hB, rfl⟩ := hx.ptr_inv
    split at h
    · rename_i mb since sn last hg
      obtain ⟨B', hB', z0, m2, q1, Bm, q2, q3⟩ := hm.blk _ _ hg
      rw [hB] at hB'
      cases hB'
      subst q3
      split at h
      · rename_i k u bn ck hgm
        split at h
        · rename_i hc
          cases h
          rw [Bool.and_eq_true] at hc
          have c1 : sn = bn := Nat.eq_of_beq_eq_true hc.1
          have c2 : ck = last := Nat.eq_of_beq_eq_true hc.2
          obtain ⟨Bm', hBm', es', p1, p2, p3, p4⟩ := hm.blk _ _ hgm
          rw [q2] at hBm'
          cases hBm'
          obtain ⟨e', he⟩ : ∃ e', es' = #[e'] := by
            have hl := p2.1
            simp at hl
            obtain ⟨l⟩ := es'
            match l, hl with
            | [e'], _ => exact ⟨e', rfl⟩
          subst he
          have hb : e'.born = bn := by simpa using p4
          have hk := p2.2 0 (k, u) e' rfl rfl
          refine ⟨.tuple #[e'.key, e'.val], ?_, .tupleOf (.cons hk.1 (.cons hk.2 (.nil r)))⟩
          subst c1
          subst c2
          simp only [Instr.entry, z0, Nat.add_zero, Sem.run_bind, run_getMiter q1, Result.andThen_ok]
          simp [run_getMap p1, hb]
        · cases h
      · cases h
    · cases h
  · cases h

include hT in
/-- Pointers into two whole blocks. -/
theorem apartPtr_ok (hm : MemRel r next g w) {t : TypeId} {x y : AVal} {x' y' : Value} (op : BinOp) (a b : Operand) (hx : VRel r x x') (hy : VRel r y y') (h : apartPtr T g t x y = true) :
    EqForm t x' y' ∧ (eqGuard op t a b x' y').run P w = .ok () w ∧ (Op.equal t x' y').run P w = .ok false w := by
  unfold apartPtr at h
  split at h
  · rename_i e b1 o1 b2 o2 hd
    obtain ⟨B1, hB1, rfl⟩ := hx.ptr_inv
    obtain ⟨B2, hB2, rfl⟩ := hy.ptr_inv
    refine ⟨⟨rfl, rfl⟩, by rw [eqGuard_at_pointer]; rfl, ?_⟩
    split at h
    · rename_i k hne hk
      split at h
      · rename_i e1 vs1 e2 vs2 hg1 hg2
        simp only [Bool.and_eq_true] at h
        have l1 : o1 < vs1.length := Nat.le_of_ble_eq_true h.1
        have l2 : o2 < vs2.length := Nat.le_of_ble_eq_true h.2
        have hb : b1 ≠ b2 := Nat.ne_of_beq_eq_false hne
        obtain ⟨B1', hB1', c1, fr1, q1, q2, q3, q4, q5⟩ := hm.blk _ _ hg1
        rw [hB1] at hB1'
        cases hB1'
        obtain ⟨B2', hB2', c2, fr2, p1, p2, p3, p4, p5⟩ := hm.blk _ _ hg2
        rw [hB2] at hB2'
        cases hB2'
        have hcb : ¬ B1.cb = B2.cb := fun e => hb (hm.inj _ _ _ _ _ _ hg1 hg2 hB1 hB2 rfl e)
        have no : ∀ (fr : Nat × Nat) (j : Nat), ¬ (fr.1 ≤ j ∧ j < fr.2) → (decide (fr.1 ≤ j) && decide (j < fr.2)) = false := fun fr j h => by simpa using h
        have f1 : w.frozen? ⟨B1.cb, B1.base + o1, none⟩ = false := by simpa [World.frozen?, q1] using q5 rfl (B1.base + o1) (by omega) (.inl (by omega))
        have f2 : w.frozen? ⟨B2.cb, B2.base + o2, none⟩ = false := by simpa [World.frozen?, p1] using p5 rfl (B2.base + o2) (by omega) (.inl (by omega))
        have f3 : w.frozen? ⟨B1.cb, c1.size, none⟩ = false := by simpa [World.frozen?, q1] using q5 rfl c1.size (by omega) (.inr ⟨rfl, rfl⟩)
        have f4 : w.frozen? ⟨B2.cb, c2.size, none⟩ = false := by simpa [World.frozen?, p1] using p5 rfl c2.size (by omega) (.inr ⟨rfl, rfl⟩)
        have s1 := shape_of q1
        have s2 := shape_of p1
        have hs : (sameAddr ⟨B1.cb, B1.base + o1, none⟩ ⟨B2.cb, B2.base + o2, none⟩).run P w = .ok false w := by
          simp [sameAddr, hcb, f1, f2, noView, viewAt, s1, s2, mayBeOne, stringish, f3, f4]
        obtain ⟨n, hn⟩ : ∃ n, ∀ t x y, Op.equal t x y = Op.equalIn (n + 1) t x y := ⟨9999, fun _ _ _ => rfl⟩
        rw [hn]
        simp only [Op.equalIn, Sem.run_bind, run_underlying (hT.und hd), run_size hT hk, Result.andThen_ok]
        simpa using hs
      · cases h
    · cases h
  · cases h

include hT in
theorem cmpPtr_ok (hm : MemRel r next g w) {op : BinOp} {t : TypeId} {x y : AVal} {x' y' : Value} {v : AVal} (a b : Operand) (hx : VRel r x x') (hy : VRel r y y') (h : cmpPtr T g op t x y = some v) :
    ∃ v', (do eqGuard op t a b x' y'; Go.binOp op t x' y' : Sem Value).run P w = .ok v' w ∧ VRel r v v' := by
  unfold cmpPtr at h
  split at h
  · split at h
    · rename_i hp
      cases h
      obtain ⟨e1, e2, e3⟩ := apartPtr_ok hT hm .eql a b hx hy hp
      exact ⟨_, by simp [e2, e1.1, e3], .bool _⟩
    · cases h
  · split at h
    · rename_i hp
      cases h
      obtain ⟨e1, e2, e3⟩ := apartPtr_ok hT hm .neq a b hx hy hp
      exact ⟨_, by simp [e2, e1.2, e3], .bool _⟩
    · cases h
  · cases h

include hT in
/-- THE READING OPERATIONS. -/
theorem evR_ok {n : Nat} {t : Tree AVal} {a : Act} {o : Oper} {v : AVal} (hg : GlobOk T r) (ht : TRel D r t n a) (hm : MemRel r next g w) (h : evR T t g o.op = some v) :
    GivesV P a o w r v w := by
  have E := fun x => ev_rel hg ht x
  cases ho : o.op with
  | load u x =>
    rw [ho] at h
    exact givesV_of w (by simp only [execOp, ho]) (loadOp_ok hT hm (E x) h)
  | entry x =>
    rw [ho] at h
    exact givesV_of w (by simp only [execOp, ho]) (entryOp_ok hm (E x) h)
  | binOp op xt x y yt =>
    rw [ho] at h
    simp only [evR] at h
    have key : ∃ v', (do eqGuard op xt x y (a.eval x) (a.eval y); Go.binOp op xt (a.eval x) (a.eval y) : Sem Value).run P w = .ok v' w ∧ VRel r v v' := by
      split at h
      · rename_i u hu
        cases h
        exact binop_ok hT w (E x) (E y) hu
      · exact cmpPtr_ok hT hm x y (E x) (E y) h
    exact givesV_of w (by simp only [execOp, ho]) key
  | lookup mt x k ok =>
    rw [ho] at h
    exact givesV_of w (by simp only [execOp, ho]) (lookupOp_ok hT hm (E x) (E k) h)
  | slice xt x lo hi mx =>
    rw [ho] at h
    exact givesV_of w (by simp only [execOp, ho]) (sliceArr_ok hT hm (E x) (oRel hg ht lo) (oRel hg ht hi) (oRel hg ht mx) h)
  | convert s d x =>
    rw [ho] at h
    simp only [evR] at h
    split at h
    · rename_i e x0 hs hd
      have hx := E x
      split at h
      · rename_i heu hxx
        cases h
        rw [hxx] at hx
        refine givesV_of w (x := Go.convert s d (a.eval x)) (by simp only [execOp, ho]) ⟨.string .empty, ?_, .str _ _ rfl⟩
        rw [hx.nslice_inv]
        simp [Go.convert, run_und hT hs, run_und hT hd, run_und hT heu, Conv.bytesToString]
      · rename_i b o' len cap heu hxx
        rw [hxx] at hx
        obtain ⟨B, ad, c, hB, e1, hc, hl, hr⟩ := hx.slice_inv
        split at h
        · rename_i cs hrow
          cases hby : bytesOf cs with
          | none => rw [hby] at h; cases h
          | some l =>
            rw [hby] at h
            cases h
            obtain ⟨vs, v1, v2, v3⟩ := sliceRow_ok (P := P) hm (a := ad) (k := len) hB (hr.imp id (·.1)) (fun h0 => by omega) rfl hrow
            obtain ⟨ns, n1, n2⟩ := bytesOf_ok v1 hby
            have v3 := v3 w rfl
            rw [n1] at v3
            refine givesV_of w (x := Go.convert s d (a.eval x)) (by simp only [execOp, ho]) ⟨.string (ns.foldl (fun r n => r.push (UInt8.ofNat n.toNat)) ByteArray.empty), ?_, .str _ _ ?_⟩
            · rw [e1, run_convert_bytes_string w s d x0 _ _ _ (hT.und hs) (hT.und heu) (hT.und hd)]
              exact run_bytesToString w ad len c ns v3
            · rw [foldl_push, n2]; rfl
        · cases h
      · cases h
    · exact givesV_of w (x := Go.convert s d (a.eval x)) (by simp only [execOp, ho]) (unsafeConv_ok hT hm (E x) h)
  | call c =>
    rw [ho] at h
    simp only [evR] at h
    split at h
    · rename_i b rest hc hargs
      split at h
      · rename_i mt hmt
        split at h
        · rename_i kt et hd
          split at h
          · rename_i es bs ck hgb
            cases h
            have ha := evList_rel hg ht c.args
            rw [hargs] at ha
            obtain ⟨x', rest', e, hx, _⟩ := ha.cons_inv
            obtain ⟨B, hB, rfl⟩ := hx.map_inv
            obtain ⟨B', hB', es', h1, h2, _⟩ := hm.blk _ _ hgb
            rw [hB] at hB'
            cases hB'
            have h3 : (c.args.map a.eval)[0]? = some (.map (some B.cb)) := by rw [← Array.getElem?_toList, e]; rfl
            have hl : es'.size = es.length := by have := h2.1; simpa using this
            obtain ⟨cs, e0⟩ := exec_builtin (a := a) ho hc
            refine ⟨.int .i64 es.length, ?_, .int _ _⟩
            rw [e0, ← hl]
            simp only [builtin, Builtin.len_, hmt, h3]
            simp [run_und hT hd, run_getMap h1, goInt]
          · cases h
        · cases h
      · cases h
    · rename_i b rest hc hargs
      split at h
      · rename_i mt hmt
        split at h
        · rename_i kt et hd
          split at h
          · rename_i cap buf hgb
            cases h
            have ha := evList_rel hg ht c.args
            rw [hargs] at ha
            obtain ⟨x', rest', e, hx, _⟩ := ha.cons_inv
            obtain ⟨B, hB, rfl⟩ := hx.chan_inv
            obtain ⟨B', hB', _, buf', s, q, h1, h2⟩ := hm.blk _ _ hgb
            rw [hB] at hB'
            cases hB'
            have h3 : (c.args.map a.eval)[0]? = some (.chan (some B.cb)) := by rw [← Array.getElem?_toList, e]; rfl
            have hl : buf'.size = buf.length := by have := h2.len; simpa using this
            obtain ⟨cs, e0⟩ := exec_builtin (a := a) ho hc
            refine ⟨.int .i64 buf.length, ?_, .int _ _⟩
            rw [e0, ← hl]
            simp only [builtin, Builtin.len_, hmt, h3]
            simp [run_und hT hd, run_getChan h1, goInt]
          · cases h
        · cases h
      · cases h
    · cases h
  | _ => rw [ho] at h; cases h
end
end Ev
end Go.Proofs.YtjmapihogpdocaaGreatDoor

/-! ## EvStep -/
namespace Go.Proofs.YtjmapihogpdocaaGreatDoor
namespace Ev
open Go

structure Step (r : Ren) (n : Nat) (g : Nat → Option ABlk) (w : World) (r' : Ren) (n' : Nat) (g' : Nat → Option ABlk) (w' : World) : Prop where
  le : r.le r'
  mem : MemRel r' n' g' w'
  next : n ≤ n'
  os : w'.os = w.os
  tape : w'.tape = w.tape
  output : w'.output = w.output
  size : w.heap.size ≤ w'.heap.size
  keep : ∀ cb, cb < w.heap.size → (∀ b k B, g b = some k → k.writable = true → r.at_ b = some B → B.cb ≠ cb) → w'.heap[cb]? = w.heap[cb]?
  own : ∀ b k B, g' b = some k → r'.at_ b = some B → w.heap.size ≤ B.cb ∨
    ∃ b0 k0 B0, g b0 = some k0 ∧ r.at_ b0 = some B0 ∧ B0.cb = B.cb ∧ (k.writable = true → k0.writable = true)
  new : ∀ b B, r'.at_ b = some B → r.at_ b = some B ∨ n ≤ b

theorem Step.trans {r r1 r2 : Ren} {n n1 n2 : Nat} {g g1 g2 : Nat → Option ABlk} {w w1 w2 : World} (h : Step r n g w r1 n1 g1 w1) (k : Step r1 n1 g1 w1 r2 n2 g2 w2) :
    Step r n g w r2 n2 g2 w2 where
  le := Ren.le_trans h.le k.le
  mem := k.mem
  next := Nat.le_trans h.next k.next
  os := k.os.trans h.os
  tape := k.tape.trans h.tape
  output := k.output.trans h.output
  size := Nat.le_trans h.size k.size
  keep := by
    intro cb hc hno
    rw [k.keep cb (Nat.lt_of_lt_of_le hc h.size) ?_]
    · exact h.keep cb hc hno
    · intro b x B hb hx hB e
      rcases h.own b x B hb hB with h1 | ⟨b0, k0, B0, h1, h2, h3, h4⟩
      · omega
      · exact hno b0 k0 B0 h1 (h4 hx) h2 (by rw [h3, e])
  own := by
    intro b x B hb hB
    rcases k.own b x B hb hB with h1 | ⟨b0, k0, B0, h1, h2, h3, h4⟩
    · left; exact Nat.le_trans h.size h1
    · rcases h.own b0 k0 B0 h1 h2 with z | ⟨b1, k1, B1, z1, z2, z3, z4⟩
      · left; rw [← h3]; exact z
      · right; exact ⟨b1, k1, B1, z1, z2, z3.trans h3, fun e => z4 (h4 e)⟩
  new := by
    intro b B hB
    rcases k.new b B hB with h1 | h1
    · exact h.new b B h1
    · right; exact Nat.le_trans h.next h1

/-- Nothing but draws. -/
theorem Step.same {r : Ren} {n n' : Nat} {g : Nat → Option ABlk} {w w' : World} (hm : MemRel r n g w) (hn : n ≤ n') (hh : w'.heap = w.heap) (ho : w'.os = w.os) (ht : w'.tape = w.tape) (hp : w'.output = w.output) :
    Step r n g w r n' g w' where
  le := r.le_refl
  mem := ⟨fun b B h => Nat.lt_of_lt_of_le (hm.fresh b B h) hn, fun b B h => by rw [hh]; exact hm.inw b B h,
    fun b k h => let ⟨B, h1, h2⟩ := hm.blk b k h; ⟨B, h1, h2.mono r.le_refl (by rw [hh])⟩, hm.inj, hm.whole⟩
  next := hn
  os := ho
  tape := ht
  output := hp
  size := by rw [hh]; exact Nat.le_refl _
  keep := fun cb _ _ => by rw [hh]
  own := fun b k B h hB => .inr ⟨b, k, B, h, hB, rfl, id⟩
  new := fun b B h => .inl h
theorem Step.refl {r : Ren} {n : Nat} {g : Nat → Option ABlk} {w : World} (hm : MemRel r n g w) : Step r n g w r n g w := .same hm (Nat.le_refl _) rfl rfl rfl rfl

/-! ### New blocks -/
def Ren.ext (r : Ren) (id : Nat) (B : Blk) : Ren := ⟨fun b => if b = id then some B else r.at_ b⟩
theorem Ren.ext_le {r : Ren} {id : Nat} {B : Blk} (h : r.at_ id = none) : r.le (r.ext id B) := by
  intro b B' hb
  simp only [Ren.ext]
  by_cases e : b = id
  · subst e; rw [h] at hb; cases hb
  · rw [if_neg e]; exact hb
theorem Ren.ext_same (r : Ren) (id : Nat) (B : Blk) : (r.ext id B).at_ id = some B := by simp [Ren.ext]

def upd (g : Nat → Option ABlk) (id : Nat) (k : ABlk) : Nat → Option ABlk := fun b => if b = id then some k else g b

structure Made (r : Ren) (id : Nat) (w : World) (k : ABlk) (v : AVal) (v' : Value) (w' : World) (B : Blk) : Prop where
  cb : B.cb = w.heap.size
  heap : ∃ o, w'.heap = w.heap.push o
  os : w'.os = w.os
  tape : w'.tape = w.tape
  output : w'.output = w.output
  blk : BlkRel (r.ext id B) k B w'
  val : VRel (r.ext id B) v v'
  whole : ∀ e vs ro frz, k = .cells e vs ro frz true → B.base = 0 ∧ B.size = vs.length

theorem Made.step {r : Ren} {id n n' : Nat} {g : Nat → Option ABlk} {w w' : World} {k : ABlk} {v : AVal} {v' : Value} {B : Blk} (h : Made r id w k v v' w' B) (hm : MemRel r n g w)
    (hid : r.at_ id = none) (hg : g id = none) (hn : n ≤ n') (hin : id < n') : r.le (r.ext id B) ∧ MemRel (r.ext id B) n' (upd g id k) w' := by
  obtain ⟨o, ho⟩ := h.heap
  have hle := Ren.ext_le (B := B) hid
  refine ⟨hle, ?_⟩
  have old : ∀ b B', b ≠ id → (r.ext id B).at_ b = some B' → r.at_ b = some B' := fun b B' e hb => by simpa [Ren.ext, e] using hb
  refine ⟨?_, ?_, ?_, ?_, ?_⟩
  · intro b B' hb
    by_cases e : b = id
    · omega
    · exact Nat.lt_of_lt_of_le (hm.fresh b B' (old b B' e hb)) hn
  · intro b B' hb
    rw [ho, Array.size_push]
    by_cases e : b = id
    · subst e; rw [Ren.ext_same] at hb; cases hb; rw [h.cb]; exact Nat.lt_succ_self _
    · exact Nat.lt_succ_of_lt (hm.inw b B' (old b B' e hb))
  · intro b k' hk
    simp only [upd] at hk
    by_cases e : b = id
    · subst e; rw [if_pos rfl] at hk; cases hk; exact ⟨B, Ren.ext_same r b B, h.blk⟩
    · rw [if_neg e] at hk
      obtain ⟨B', h1, h2⟩ := hm.blk b k' hk
      have hlt := hm.inw b B' h1
      exact ⟨B', hle b B' h1, h2.mono hle (by rw [ho, Array.getElem?_push, if_neg (by omega)])⟩
  · intro b1 k1 b2 k2 B1 B2 g1 g2 r1 r2 hw hc
    simp only [upd] at g1 g2
    by_cases e1 : b1 = id
    · by_cases e2 : b2 = id
      · rw [e1, e2]
      · have hlt := hm.inw b2 B2 (old b2 B2 e2 r2)
        rw [e1, Ren.ext_same] at r1
        cases r1
        rw [h.cb] at hc
        omega
    · by_cases e2 : b2 = id
      · have hlt := hm.inw b1 B1 (old b1 B1 e1 r1)
        rw [e2, Ren.ext_same] at r2
        cases r2
        rw [h.cb] at hc
        omega
      · rw [if_neg e1] at g1
        rw [if_neg e2] at g2
        exact hm.inj b1 k1 b2 k2 B1 B2 g1 g2 (old _ _ e1 r1) (old _ _ e2 r2) hw hc
  · intro b B' e2 vs ro frz hb hB
    simp only [upd] at hb
    by_cases e : b = id
    · rw [if_pos e] at hb
      rw [e, Ren.ext_same] at hB
      cases hB
      exact h.whole e2 vs ro frz (Option.some.inj hb)
    · rw [if_neg e] at hb
      exact hm.whole b B' e2 vs ro frz hb (old b B' e hB)

theorem Made.new {r : Ren} {n : Nat} {g : Nat → Option ABlk} {w w' : World} {k : ABlk} {v : AVal} {v' : Value} {B : Blk} (h : Made r n w k v v' w' B) (hm : MemRel r n g w)
    (hg : g n = none) : Step r n g w (r.ext n B) (n + 1) (upd g n k) w' := by
  have hid : r.at_ n = none := by
    cases e : r.at_ n with
    | none => rfl
    | some B' => exact absurd (hm.fresh n B' e) (Nat.lt_irrefl _)
  obtain ⟨hle, hmem⟩ := h.step (n' := n + 1) hm hid hg (Nat.le_succ _) (Nat.lt_succ_self _)
  obtain ⟨o, ho⟩ := h.heap
  refine ⟨hle, hmem, Nat.le_succ _, h.os, h.tape, h.output, by rw [ho, Array.size_push]; exact Nat.le_succ _, ?_, ?_, ?_⟩
  · intro cb hc _
    rw [ho, Array.getElem?_push, if_neg (by omega)]
  · intro b k' B' hb hB
    simp only [upd] at hb
    by_cases e : b = n
    · left; rw [e, Ren.ext_same] at hB; cases hB; rw [h.cb]; exact Nat.le_refl _
    · rw [if_neg e] at hb
      right
      have : r.at_ b = some B' := by simpa [Ren.ext, e] using hB
      exact ⟨b, k', B', hb, this, rfl, id⟩
  · intro b B' hB
    by_cases e : b = n
    · right; rw [e]; exact Nat.le_refl _
    · left; simpa [Ren.ext, e] using hB

/-- A row of cells, just made. -/
theorem made_row (wh : Bool) {r : Ren} {id : Nat} {w : World} (hid : r.at_ id = none) {e : TypeId} {vs : List AVal} {cs : Array Value} {x : AVal} {x' : Value} {w' : World} {fr : Nat × Nat}
    (hh : w'.heap = w.heap.push (.cells cs e fr)) (ho : w'.os = w.os) (ht : w'.tape = w.tape) (hp : w'.output = w.output) (hv : VsRel r vs (cs.toList.take vs.length)) (hl : vs.length ≤ cs.size)
    (hfr : ∀ j, (j < cs.size ∨ wh = true ∧ j = cs.size) → ¬ (fr.1 ≤ j ∧ j < fr.2)) (hx : VRel (r.ext id ⟨w.heap.size, 0, cs.size⟩) x x') (hwh : wh = true → cs.size = vs.length) :
    Made r id w (.cells e vs false 0 wh) x x' w' ⟨w.heap.size, 0, cs.size⟩ := by
  refine ⟨rfl, ⟨_, hh⟩, ho, ht, hp, ⟨cs, fr, by rw [hh]; simp, rfl, by simpa using hl, ?_, fun _ j _ h2 => hfr j h2⟩, hx, fun e vs ro frz h => by cases h; exact ⟨rfl, hwh rfl⟩⟩
  simpa using hv.mono (Ren.ext_le hid)
end Ev
end Go.Proofs.YtjmapihogpdocaaGreatDoor

/-! ## EvMade -/
namespace Go.Proofs.YtjmapihogpdocaaGreatDoor
namespace Ev
open Go
variable {D : Keep}

section
variable {P : Program} {r : Ren} {w : World} {T : Tab} (hT : TabOk T P)

theorem run_newRow (e : TypeId) (cs : Array Value) : (newRow e cs).run P w = .ok ⟨w.heap.size, 0, none⟩ { w with heap := w.heap.push (.cells cs e) } := by
  simp [newRow]
theorem run_newVar (e : TypeId) (v : Value) : (newVar e v).run P w = .ok ⟨w.heap.size, 0, none⟩ { w with heap := w.heap.push (.cells v.cells e) } := run_newRow e v.cells

theorem ptr_new {id : Nat} {n : Nat} : VRel (r.ext id ⟨w.heap.size, 0, n⟩) (.ptr id 0) (.pointer (some ⟨w.heap.size, 0, none⟩)) :=
  .ptr id 0 ⟨w.heap.size, 0, n⟩ (Ren.ext_same r id _)

theorem made_var {id : Nat} (hid : r.at_ id = none) (e : TypeId) {v : AVal} {v' : Value} (hv : VRel r v v') (h1 : v ≠ .any) (h2 : ∀ vs, v ≠ .tuple vs) :
    Made r id w (.cells e v.cells false 0 true) (.ptr id 0) (.pointer (some ⟨w.heap.size, 0, none⟩)) { w with heap := w.heap.push (.cells v'.cells e) } ⟨w.heap.size, 0, v'.cells.size⟩ := by
  have hc := hv.cells h1 h2
  have hl : v'.cells.size = v.cells.length := by have := hc.len; simpa using this
  refine made_row true (fr := (0, 0)) hid rfl rfl rfl rfl ?_ (by omega) (fun j _ h => by simp at h) ptr_new (fun _ => hl)
  rw [← hl, List.take_of_length_le (by simp)]
  exact hc

theorem repeatCells_length (z : List AVal) : ∀ n, (repeatCells z n).length = n * z.length
  | 0 => by simp [repeatCells]
  | n + 1 => by simp [repeatCells, repeatCells_length z n, Nat.succ_mul, Nat.add_comm]
theorem repeatCells_get (z : List AVal) : ∀ (n i : Nat) v, (repeatCells z n)[i]? = some v → z[i % z.length]? = some v
  | 0, i, v, h => by simp [repeatCells] at h
  | n + 1, i, v, h => by
    simp only [repeatCells] at h
    rw [List.getElem?_append] at h
    by_cases c : i < z.length
    · rw [if_pos c] at h
      rw [Nat.mod_eq_of_lt c]; exact h
    · rw [if_neg c] at h
      have := repeatCells_get z n (i - z.length) v h
      rw [← this]
      congr 1
      conv => lhs; rw [← Nat.sub_add_cancel (Nat.le_of_not_lt c)]
      rw [Nat.add_mod_right]

/-- Zero cells, again and again. -/
theorem repeat_rel {z : List AVal} {z' : Array Value} (hz : VsRel r z z'.toList) (k n : Nat) (hn : n = k * z.length) :
    VsRel r (repeatCells z k) ((Array.range n).map (z'[· % z'.size]!)).toList := by
  have hs : z'.size = z.length := by have := hz.len; simpa using this
  refine ⟨by simp [repeatCells_length, hn], fun i v v' a b => ?_⟩
  have h1 := repeatCells_get z k i v a
  obtain ⟨u', h2, h3⟩ := hz.get h1
  simp only [Array.toList_map, Array.toList_range, List.getElem?_map, Option.map_eq_some_iff] at b
  obtain ⟨j, hj, rfl⟩ := b
  have : j = i := by
    rw [List.getElem?_range] at hj
    · exact (Option.some.inj hj).symm
    · rcases Nat.lt_or_ge i n with c | c
      · exact c
      · rw [List.getElem?_eq_none (by simpa using c)] at hj; cases hj
  subst this
  rw [hs]
  have e : z'[j % z.length]! = u' := by
    rw [Array.getElem?_toList] at h2
    simp [Array.getElem!_eq_getD, Array.getD_eq_getD_getElem?, h2]
  rw [e]
  exact h3

theorem VRel.fine_cells {v : AVal} {v' : Value} (h : VRel r v v') (hf : v.fine = true) : VsRel r v.cells v'.cells.toList :=
  h.cells (by intro e; subst e; cases hf) (by intro vs e; subst e; cases hf)

theorem fillOp_length {place : Nat → Option (Nat × Nat)} : ∀ {parts : List (Nat × AVal)} {cs out : List AVal}, fillOp place cs parts = some out → out.length = cs.length := by
  intro parts
  induction parts with
  | nil => intro cs out h; cases h; rfl
  | cons p rest ih =>
    intro cs out h
    obtain ⟨i, v⟩ := p
    simp only [fillOp] at h
    split at h
    · cases h
    · rename_i off size hp
      have key : (Nat.beq v.cells.length size && Nat.ble (off + v.cells.length) cs.length) = true ∧ fillOp place (over cs off v.cells) rest = some out := by
        split at h
        · cases h
        · cases h
        · split at h
          · rename_i hb; exact ⟨hb, h⟩
          · cases h
      obtain ⟨hb, h⟩ := key
      rw [Bool.and_eq_true] at hb
      have hb2 := Nat.le_of_ble_eq_true hb.2
      rw [ih h]
      simp [over]
      omega

include hT in
theorem buildSlice_made {id : Nat} (hid : r.at_ id = none) {n : Nat} {t : Tree AVal} {a : Act} (hg : GlobOk T r) (ht : TRel D r t n a) {st : TypeId} {len : Nat} {parts : Array (Nat × Operand)} {v : AVal} {k : ABlk}
    (h : evA T t id (.buildSlice st len parts) = some (v, k)) :
    ∃ v' w' B, (Instr.buildSlice st len (parts.map fun (i, x) => (i, a.eval x))).run P w = .ok v' w' ∧ Made r id w k v v' w' B := by
  simp only [evA] at h
  split at h
  · rename_i e hd
    split at h
    · rename_i m z hn hz
      split at h
      · rename_i hb
        rw [Bool.and_eq_true] at hb
        have hb3 := hb.2
        have hb := hb.1
        rw [Bool.and_eq_true] at hb
        have hb1 := Nat.le_of_ble_eq_true hb.1
        have hb2 : z.cells.length = m := Nat.eq_of_beq_eq_true hb.2
        obtain ⟨z', ez, hzz⟩ := run_zero hT hz w
        have hzr : VRel r z z' := by rw [hzz]; exact absV_rel r z'
        obtain ⟨p1, p2⟩ := parts_rel (T := T) hg ht parts
        cases hf : fillOp (fun i => some (i * m, m)) (repeatCells z.cells len) (parts.toList.map fun p => (p.1, ev T t p.2)) with
        | none => rw [hf] at h; cases h
        | some cs =>
          rw [hf] at h
          cases h
          have hzc := hzr.fine_cells hb3
          obtain ⟨zc, hq, hrel⟩ : ∃ zc : Array Value, ((len * m = 0 ∧ zc = #[]) ∨ (¬ len * m = 0 ∧ zc = z'.cells)) ∧
              VsRel r (repeatCells z.cells len) ((Array.range (len * m)).map (zc[· % zc.size]!)).toList := by
            by_cases hz0 : len * m = 0
            · refine ⟨#[], .inl ⟨hz0, rfl⟩, by simp [repeatCells_length, hb2], fun i u u' a1 b1 => ?_⟩
              rw [hz0] at b1; simp at b1
            · exact ⟨z'.cells, .inr ⟨hz0, rfl⟩, repeat_rel hzc len (len * m) (by rw [hb2])⟩
          obtain ⟨out', ho, hr⟩ := fillOp_ok hrel p1 p2 hf
          have hlen : out'.size = cs.length := by have := hr.len; simpa using this
          have h24 : ¬ (2 ^ 24 < len * m) := by omega
          refine ⟨.slice (some ⟨w.heap.size, 0, none⟩) len len, { w with heap := w.heap.push (.cells out' e) }, ⟨w.heap.size, 0, out'.size⟩, ?_, ?_⟩
          · simp only [Instr.buildSlice, Sem.run_bind, run_und hT hd, run_size hT hn, Result.andThen_ok]
            rw [if_neg h24]
            rcases hq with ⟨h0, rfl⟩ | ⟨h0, rfl⟩
            · rw [if_pos h0]
              simp only [Sem.run_bind, Sem.run_pure, Result.andThen_ok, ho, run_newRow]
            · rw [if_neg h0]
              simp only [Sem.run_bind, Sem.run_pure, ez, Result.andThen_ok, ho, run_newRow]
          · refine made_row false (fr := (0, 0)) hid rfl rfl rfl rfl ?_ (by omega) (fun j _ h => by simp at h) ?_ (fun h => Bool.noConfusion h)
            · rw [← hlen, List.take_of_length_le (by simp)]; exact hr
            · refine .slice id 0 len m (.exact len) _ _ len (Ren.ext_same r id _) rfl (Nat.le_refl _) (.inr ⟨rfl, ?_⟩)
              have := fillOp_length hf
              rw [repeatCells_length, hb2] at this
              simp only [Nat.zero_add]
              omega
      · cases h
    · cases h
  · cases h

include hT in
theorem makeSlice_made {id : Nat} (hid : r.at_ id = none) {n : Nat} {t : Tree AVal} {a : Act} (hg : GlobOk T r) (ht : TRel D r t n a) {st : TypeId} {l c : Operand} {v : AVal} {k : ABlk}
    (h : evA T t id (.makeSlice st l c) = some (v, k)) :
    ∃ v' w' B, (Instr.makeSlice st (a.eval l) (a.eval c)).run P w = .ok v' w' ∧ Made r id w k v v' w' B := by
  simp only [evA] at h
  split at h
  · rename_i e k1 lv k2 cv hd hl hc
    have hl2 := ev_rel (T := T) hg ht l
    rw [hl] at hl2
    have hc2 := ev_rel (T := T) hg ht c
    rw [hc] at hc2
    rw [hl2.int_inv, hc2.int_inv]
    split at h
    · rename_i i z hi hz
      split at h
      · rename_i hb
        obtain ⟨b1, b2, b3, b4⟩ := hb
        split at h
        · rename_i hzl
          rw [Bool.and_eq_true] at hzl
          have hb2 : z.cells.length = i.size := Nat.eq_of_beq_eq_true hzl.1
          cases h
          obtain ⟨z', hiz, hzz⟩ : ∃ z', i.zero = some z' ∧ z = absV z' := by
            unfold Tab.zero at hz
            rw [hi] at hz
            simp only at hz
            split at hz
            · rename_i z' hzz; cases hz; exact ⟨z', hzz, rfl⟩
            · cases hz
          have hzr : VRel r z z' := by rw [hzz]; exact absV_rel r z'
          have hzc := hzr.fine_cells hzl.2
          have hrel := repeat_rel hzc cv.toNat (cv.toNat * i.size) (by rw [hb2])
          refine ⟨_, _, ⟨w.heap.size, 0, ((Array.range (cv.toNat * i.size)).map (z'.cells[· % z'.cells.size]!)).size⟩,
            run_make w st e i z' (hT.und hd) (hT.info _ _ hi) hiz k1 k2 lv cv b1 b2 (by omega) (by omega), ?_⟩
          · refine made_row false (fr := (0, 0)) (cs := (Array.range (cv.toNat * i.size)).map (z'.cells[· % z'.cells.size]!)) hid rfl rfl rfl rfl ?_ (by simp [repeatCells_length, hb2]) (fun j _ h => by simp at h) ?_ (fun h => Bool.noConfusion h)
            · rw [repeatCells_length, hb2, List.take_of_length_le (by simp)]; exact hrel
            · refine .slice id 0 _ i.size (.exact cv.toNat) _ _ cv.toNat (Ren.ext_same r id _) rfl (by omega) (.inr ⟨rfl, ?_⟩)
              simp
        · cases h
      · cases h
    · cases h
  · cases h

theorem heap_push {w w' : World} {o : Obj} (h1 : ∀ j, j < w.heap.size → w'.heap[j]? = w.heap[j]?) (h2 : w'.heap[w.heap.size]? = some o) (h3 : w'.heap.size = w.heap.size + 1) : w'.heap = w.heap.push o := by
  apply Array.ext_getElem?
  intro j
  rw [Array.getElem?_push]
  by_cases e : j = w.heap.size
  · rw [if_pos e, e, h2]
  · rw [if_neg e]
    by_cases c : j < w.heap.size
    · exact h1 j c
    · rw [Array.getElem?_eq_none (by omega), Array.getElem?_eq_none (by omega)]

include hT in
/-- THE MAKING OPERATIONS. -/
theorem evA_ok {id : Nat} (hid : r.at_ id = none) {n : Nat} {t : Tree AVal} {a : Act} {o : Oper} {v : AVal} {k : ABlk} (hg : GlobOk T r) (ht : TRel D r t n a) (h : evA T t id o.op = some (v, k)) :
    ∃ v' w' B, (execOp a.eval o).run P w = .ok (.value v') w' ∧ Made r id w k v v' w' B := by
  have E := fun x => ev_rel (T := T) hg ht x
  have lift : ∀ {x : Sem Value}, execOp a.eval o = (do pure (.value (← x))) → (∃ v' w' B, x.run P w = .ok v' w' ∧ Made r id w k v v' w' B) →
      ∃ v' w' B, (execOp a.eval o).run P w = .ok (.value v') w' ∧ Made r id w k v v' w' B := by
    intro x e ⟨v', w', B, e1, hm⟩
    exact ⟨v', w', B, by rw [e]; simp [e1], hm⟩
  cases ho : o.op with
  | alloc e =>
    rw [ho] at h
    simp only [evA] at h
    split at h
    · cases h
    · cases h
    · cases h
    · rename_i z h1 h2 hz
      cases h
      obtain ⟨z', ez, hzz⟩ := run_zero hT hz w
      have hzr : VRel r z z' := by rw [hzz]; exact absV_rel r z'
      exact lift (x := Instr.alloc e true (.tuple #[])) (by simp only [execOp, ho]) ⟨_, _, _, by simp only [Instr.alloc, Sem.run_bind, ez, Result.andThen_ok, run_newVar, Sem.run_pure], made_var hid e hzr (fun c => h1 (by rw [c])) (fun vs c => h2 vs (by rw [c]))⟩
  | box e x =>
    rw [ho] at h
    simp only [evA] at h
    split at h
    · cases h
    · cases h
    · rename_i z h1 h2
      cases h
      exact lift (x := Instr.box e (a.eval x)) (by simp only [execOp, ho]) ⟨_, _, _, by simp only [Instr.box, Sem.run_bind, Result.andThen_ok, run_newVar, Sem.run_pure], made_var hid e (E x) h1 h2⟩
  | buildSlice st len parts => rw [ho] at h; exact lift (by simp only [execOp, ho]) (buildSlice_made hT hid hg ht h)
  | makeSlice st l c => rw [ho] at h; exact lift (by simp only [execOp, ho]) (makeSlice_made hT hid hg ht h)
  | makeMap mt m =>
    rw [ho] at h
    simp only [evA] at h
    have fin : ∀ x : Option Value, (Instr.makeMap mt x).run P w = .ok (.map (some w.heap.size)) { w with heap := w.heap.push (.map #[] 0) } → v = .map id → k = .map [] [] 0 →
        ∃ v' w' B, (Instr.makeMap mt x).run P w = .ok v' w' ∧ Made r id w k v v' w' B := by
      intro x hx e1 e2
      subst e1; subst e2
      refine ⟨_, _, ⟨w.heap.size, 0, 0⟩, hx, rfl, ⟨_, rfl⟩, rfl, rfl, rfl, ⟨#[], by simp, ⟨rfl, fun i e e' a => by simp at a⟩, MapKept.stamped_empty 0, rfl⟩, ?_, fun e vs ro frz h => by cases h⟩
      exact .map id ⟨w.heap.size, 0, 0⟩ (Ren.ext_same r id _)
    cases m with
    | none =>
      simp only [Option.some.injEq, Prod.mk.injEq] at h
      exact lift (x := Instr.makeMap mt none) (by simp only [execOp, ho]; rfl) (fin none (by simp [Instr.makeMap]) h.1.symm h.2.symm)
    | some x =>
      simp only at h
      split at h
      · rename_i kt et k1 n1 hd hx
        simp only [Option.some.injEq, Prod.mk.injEq] at h
        have hx2 := E x
        rw [hx] at hx2
        exact lift (x := Instr.makeMap mt (some (a.eval x))) (by simp only [execOp, ho]; rfl) (fin (some (a.eval x)) (by rw [hx2.int_inv]; simp [Instr.makeMap, run_und hT hd, asInt, asIntOf]) h.1.symm h.2.symm)
      · cases h
  | convert s d x =>
    rw [ho] at h
    simp only [evA] at h
    split at h
    · rename_i e l hs hd hx
      split at h
      · rename_i he
        split at h
        · rename_i hb
          cases h
          have hx2 := E x
          rw [hx] at hx2
          obtain ⟨s', es, el⟩ := hx2.str_inv
          have hlen : l.length = s'.size := by rw [← el, data_size]
          have hcap := grownCap_ge w s'.size 0 e
          have hsz : (Lib.bytesCells w e s').size = grownCap w s'.size 0 e := by
            simp only [Lib.bytesCells, Array.size_append, Array.size_map, Array.size_replicate]
            show s'.size + _ = _
            omega
          have hheap := heap_push (Lib.bytesWorld_at_old w e s') (Lib.bytesWorld_at_new w e s') (Lib.bytesWorld_size w e s')
          refine lift (x := Go.convert s d (a.eval x)) (by simp only [execOp, ho]) ⟨_, _, ⟨w.heap.size, 0, (Lib.bytesCells w e s').size⟩, by rw [es]; exact Lib.run_convert_string_bytes w s d e s' (hT.und hs) (hT.und hd) (hT.und he), ?_⟩
          refine made_row false (cs := Lib.bytesCells w e s') hid hheap rfl rfl rfl ?_ (by simp only [List.length_map]; omega) (fun j hj hc => by rcases hj with hj | hj; omega; cases hj.1) ?_ (fun h => Bool.noConfusion h)
          · refine ⟨by simp only [List.length_map, List.length_take, Array.length_toList]; omega, fun i u u' a1 b1 => ?_⟩
            simp only [List.length_map] at b1
            rw [List.getElem?_map] at a1
            rw [List.getElem?_take] at b1
            split at b1
            · rename_i hi
              simp only [Lib.bytesCells, Array.toList_append, Array.toList_map] at b1
              rw [List.getElem?_append, if_pos (by simp only [List.length_map]; rw [el]; exact hi), List.getElem?_map, el] at b1
              cases hli : l[i]? with
              | none => rw [hli] at a1; cases a1
              | some c => rw [hli] at a1 b1; cases a1; cases b1; exact .int _ _
            · cases b1
          · rw [hlen]
            refine .slice id 0 _ 1 (.least s'.size) _ _ _ (Ren.ext_same r id _) hcap hcap (.inr ⟨rfl, ?_⟩)
            simp only
            omega
        · cases h
      · cases h
    · cases h
  | range xt x =>
    rw [ho] at h
    simp only [evA] at h
    split at h
    · rename_i l hd hx
      cases h
      have hx2 := E x
      rw [hx] at hx2
      obtain ⟨s', es, el⟩ := hx2.str_inv
      refine lift (x := Instr.range xt (a.eval x)) (by simp only [execOp, ho]) ⟨.pointer (some ⟨w.heap.size, 0, none⟩), { w with heap := w.heap.push (.stringIter s' 0) }, ⟨w.heap.size, 0, 0⟩, by rw [es]; simp [Instr.range, run_und hT hd], ?_⟩
      exact ⟨rfl, ⟨_, rfl⟩, rfl, rfl, rfl, ⟨rfl, s', by simp, el⟩, ptr_new, fun e vs ro frz h => by cases h⟩
    · cases h
  | makeChan ct s =>
    rw [ho] at h
    simp only [evA] at h
    split at h
    · rename_i dir e k1 n1 hd hx
      split at h
      · rename_i i hi
        split at h
        · rename_i hb
          simp only [Option.some.injEq, Prod.mk.injEq] at h
          obtain ⟨rfl, rfl⟩ := h
          have hx2 := E s
          rw [hx] at hx2
          refine lift (x := Instr.makeChan ct (a.eval s)) (by simp only [execOp, ho]) ⟨.chan (some w.heap.size), { w with heap := w.heap.push (.chan n1.toNat #[] false 0 0 false) }, ⟨w.heap.size, 0, 0⟩, ?_, ?_⟩
          · rw [hx2.int_inv]
            have h1 : ¬ n1 < 0 := by omega
            have h2 : ¬ 9223372036854775807 < n1 := by omega
            have h3 : ¬ 281474976710544 < (i.bytes : Int) * n1 := by omega
            simp only [Instr.makeChan, Sem.run_bind, run_asInt, Result.andThen_ok, run_und hT hd]
            simp [typeInfo, hT.info _ _ hi, h1, h2, h3]
          · exact ⟨rfl, ⟨_, rfl⟩, rfl, rfl, rfl, ⟨rfl, #[], 0, 0, by simp, .nil _⟩, .chan id ⟨w.heap.size, 0, 0⟩ (Ren.ext_same r id _), fun e vs ro frz h => by cases h⟩
        · cases h
      · cases h
    · cases h
  | _ => rw [ho] at h; cases h
end
end Ev
end Go.Proofs.YtjmapihogpdocaaGreatDoor

/-! ## EvWrite -/
namespace Go.Proofs.YtjmapihogpdocaaGreatDoor
namespace Ev
open Go

theorem AMem.get_set (m : AMem) (b : Nat) (k : ABlk) : (m.set b k).get = upd m.get b k := by
  funext j
  simp only [AMem.get, AMem.set, upd, Tree.get_put]
  by_cases e : j = b
  · rw [if_pos e, if_pos e.symm]
  · rw [if_neg e, if_neg (fun h => e h.symm)]
theorem AMem.get_new (m : AMem) (k : ABlk) : (m.new k).get = upd m.get m.next k := by
  funext j
  simp only [AMem.get, AMem.new, upd, Tree.get_put]
  by_cases e : j = m.next
  · rw [if_pos e, if_pos e.symm]
  · rw [if_neg e, if_neg (fun h => e h.symm)]
theorem AMem.get_kill (m : AMem) (b : Nat) : (m.kill b).get = fun j => if j = b then none else m.get j := by
  funext j
  simp only [AMem.get, AMem.kill, Tree.get_set]
  by_cases e : j = b
  · rw [if_pos e, if_pos e.symm]
  · rw [if_neg e, if_neg (fun h => e h.symm)]

section
variable {P : Program} {r : Ren} {next : Nat} {g : Nat → Option ABlk} {w : World}

theorem MemRel.none_at (hm : MemRel r next g w) {b : Nat} (hb : next ≤ b) : r.at_ b = none ∧ g b = none := by
  constructor
  · cases e : r.at_ b with
    | none => rfl
    | some B => have := hm.fresh b B e; omega
  · cases e : g b with
    | none => rfl
    | some k => obtain ⟨B, hB, _⟩ := hm.blk b k e; have := hm.fresh b B hB; omega

/-- One block is turned. -/
theorem step_upd (hm : MemRel r next g w) {b : Nat} {k k' : ABlk} {B : Blk} {w' : World} (hb : g b = some k) (hk : k.writable = true) (hB : r.at_ b = some B)
    (h : BlkRel r k' B w') (hwh : ∀ e vs ro frz, k' = .cells e vs ro frz true → B.base = 0 ∧ B.size = vs.length) (hs : w'.heap.size = w.heap.size) (ho : w'.os = w.os) (ht : w'.tape = w.tape) (hp : w'.output = w.output)
    (hkeep : ∀ cb, cb ≠ B.cb → w'.heap[cb]? = w.heap[cb]?) : Step r next g w r next (upd g b k') w' where
  le := r.le_refl
  mem := by
    refine ⟨hm.fresh, fun b B h => by rw [hs]; exact hm.inw b B h, ?_, ?_, ?_⟩
    · intro b2 k2 h2
      simp only [upd] at h2
      by_cases e : b2 = b
      · rw [if_pos e] at h2; cases h2; subst e; exact ⟨B, hB, h⟩
      · rw [if_neg e] at h2
        obtain ⟨B2, r2, q2⟩ := hm.blk b2 k2 h2
        refine ⟨B2, r2, q2.mono r.le_refl (hkeep _ ?_)⟩
        intro c
        exact e (hm.inj b k b2 k2 B B2 hb h2 hB r2 hk c.symm).symm
    · intro b1 k1 b2 k2 B1 B2 h1 h2 r1 r2 hw hc
      simp only [upd] at h1 h2
      by_cases e1 : b1 = b
      · by_cases e2 : b2 = b
        · rw [e1, e2]
        · rw [if_neg e2] at h2
          subst e1
          rw [hB] at r1; cases r1
          exact hm.inj b1 k b2 k2 B B2 hb h2 hB r2 hk hc
      · rw [if_neg e1] at h1
        by_cases e2 : b2 = b
        · subst e2
          rw [hB] at r2; cases r2
          exact hm.inj b1 k1 b2 k B1 B h1 hb r1 hB hw hc
        · rw [if_neg e2] at h2
          exact hm.inj b1 k1 b2 k2 B1 B2 h1 h2 r1 r2 hw hc
    · intro b2 B2 e2 vs ro frz h2 r2
      simp only [upd] at h2
      by_cases e : b2 = b
      · rw [if_pos e] at h2
        rw [e, hB] at r2
        cases r2
        exact hwh e2 vs ro frz (Option.some.inj h2)
      · rw [if_neg e] at h2
        exact hm.whole b2 B2 e2 vs ro frz h2 r2
  next := Nat.le_refl _
  os := ho
  tape := ht
  output := hp
  size := by rw [hs]; exact Nat.le_refl _
  keep := fun cb _ hno => hkeep cb fun e => hno b k B hb hk hB e.symm
  own := by
    intro b2 k2 B2 h2 r2
    right
    simp only [upd] at h2
    by_cases e : b2 = b
    · subst e; rw [hB] at r2; cases r2; exact ⟨b2, k, B, hb, hB, rfl, fun _ => hk⟩
    · rw [if_neg e] at h2; exact ⟨b2, k2, B2, h2, r2, rfl, id⟩
  new := fun b B h => .inl h

theorem run_storeRow (cb o : Nat) (e : TypeId) (fz : Nat × Nat) : ∀ (vs : List Value) (i : Nat) (cur : Array Value) (w : World), w.heap[cb]? = some (.cells cur e fz) →
    (∀ j, o + i ≤ j → j < o + i + vs.length → ¬ (fz.1 ≤ j ∧ j < fz.2)) → o + i + vs.length ≤ cur.size → (∀ v ∈ vs, v.oneCell' = true) →
    (storeCells ⟨cb, o, none⟩ vs i).run P w = .ok () (w.setRow cb (cur.toList.take (o + i) ++ vs ++ cur.toList.drop (o + i + vs.length)).toArray)
  | [], i, cur, w, hg, _, _, _ => by
    simp only [storeCells, List.append_nil, List.length_nil, Nat.add_zero, List.take_append_drop, Array.toArray_toList]
    rw [setRow_self w cb cur e fz hg]
    rfl
  | v :: rest, i, cur, w, hg, hfz, hl, h1 => by
    have hi : o + i < cur.size := by simp at hl; omega
    have hcell : w.cell? ⟨cb, o + i, none⟩ = some cur[o + i] := by simp [World.cell?, hg, hi]
    have hfro : w.frozen? ⟨cb, o + i, none⟩ = false := by
      have := hfz (o + i) (Nat.le_refl _) (by simp)
      obtain ⟨lo, hi'⟩ := fz
      simp only [World.frozen?, hg, Bool.and_eq_false_iff, decide_eq_false_iff_not]
      simp only at this
      omega
    have hst : (store ((⟨cb, o, none⟩ : Addr).add i) v).run P w = .ok () (w.setRow cb (cur.setIfInBounds (o + i) v)) := by
      rw [Addr_add, run_store P w _ v _ (h1 v (by simp)), hcell]
      simp [hfro, setCell_eq_setRow w cb (o + i) cur e fz v hg]
    have ih := run_storeRow cb o e fz rest (i + 1) (cur.setIfInBounds (o + i) v) (w.setRow cb (cur.setIfInBounds (o + i) v)) (setRow_heap w cb cur _ e _ hg)
      (fun j a b => hfz j (by omega) (by simp; omega)) (by simp at hl ⊢; omega) (fun x hx => h1 x (by simp [hx]))
    simp only [storeCells, Sem.run_bind, hst, Result.andThen_ok, ih, setRow_setRow]
    congr 3
    have h2 : o + i < cur.toList.length := by simpa using hi
    simp only [Array.toList_setIfInBounds, List.length_cons]
    rw [List.take_set, List.drop_set, if_pos (by omega)]
    rw [show o + (i + 1) = o + i + 1 from by omega, List.take_succ_eq_append_getElem h2]
    have hl2 : (List.take (o + i) cur.toList).length = o + i := by simp; omega
    rw [List.set_append, if_neg (by omega), hl2]
    simp only [Nat.sub_self, List.set_cons_zero, List.append_assoc, List.cons_append, List.nil_append]
    rw [show o + i + 1 + rest.length = o + i + (rest.length + 1) from by omega]

theorem one_rel {v : AVal} {v' : Value} (h : VRel r v v') (h1 : v.one = true) : v'.oneCell' = true := by
  cases h <;> first | rfl | (simp [AVal.one] at h1)
theorem ones_rel {vs : List AVal} {vs' : List Value} (h : VsRel r vs vs') (h1 : vs.all AVal.one = true) : ∀ v ∈ vs', v.oneCell' = true := by
  intro v hv
  obtain ⟨i, hi⟩ := List.getElem?_of_mem hv
  have hlt : i < vs.length := by
    rw [← h.len]
    rcases Nat.lt_or_ge i vs'.length with c | c
    · exact c
    · rw [List.getElem?_eq_none c] at hi; cases hi
  have e : vs[i]? = some vs[i] := List.getElem?_eq_getElem hlt
  exact one_rel (h.at_ i _ _ e hi) (List.all_eq_true.1 h1 _ (List.getElem_mem hlt))

theorem setRow_size (w : World) (b : Nat) (cs : Array Value) : (w.setRow b cs).heap.size = w.heap.size := by simp [World.setRow]

theorem get_over {α : Type} (A X : List α) (n j : Nat) (hn : n ≤ A.length) :
    (A.take n ++ X ++ A.drop (n + X.length))[j]? = if j < n then A[j]? else if j < n + X.length then X[j - n]? else A[j]? := by
  have hl : (A.take n).length = n := by simp; omega
  rw [List.append_assoc, List.getElem?_append, hl]
  by_cases c : j < n
  · rw [if_pos c, if_pos c, List.getElem?_take, if_pos c]
  · rw [if_neg c, if_neg c, List.getElem?_append]
    by_cases d : j < n + X.length
    · rw [if_pos (by omega), if_pos d]
    · rw [if_neg (by omega), if_neg d, List.getElem?_drop]
      congr 1; omega

/-- A stretch of a row of cells is written. -/
theorem write_row (hm : MemRel r next g w) {b o : Nat} {e : TypeId} {vs : List AVal} {frz : Nat} {B : Blk} {cs : List AVal} {cs' : List Value} {wh : Bool} (hb : g b = some (.cells e vs false frz wh)) (hB : r.at_ b = some B)
    (hc : VsRel r cs cs') (h1 : cs.all AVal.one = true) (hf : frz ≤ o) (hl : o ≤ vs.length) (hroom : B.base + o + cs.length ≤ B.size) :
    ∃ w', (storeCells ⟨B.cb, B.base + o, none⟩ cs').run P w = .ok () w' ∧ Step r next g w r next (upd g b (.cells e (over vs o cs) false frz wh)) w' := by
  obtain ⟨B', hB', c, fr, q1, q2, q3, q4, q5⟩ := hm.blk _ _ hb
  rw [hB] at hB'
  cases hB'
  have hcl := hc.len
  refine ⟨_, run_storeRow B.cb (B.base + o) e fr cs' 0 c w q1 (fun j a1 a2 => q5 rfl j (by omega) (.inl (by omega))) (by omega) (ones_rel hc h1), ?_⟩
  refine step_upd hm (k := .cells e vs false frz wh) hb rfl hB ?_ ?_ (setRow_size _ _ _) rfl rfl rfl (fun cb hne => setRow_other w B.cb cb _ hne)
  rotate_left
  · intro e2 vs2 ro2 frz2 h
    cases h
    obtain ⟨z1, z2⟩ := hm.whole b B _ _ _ _ hb hB
    exact ⟨z1, by simp [over]; omega⟩
  refine ⟨_, fr, setRow_heap w B.cb c _ e fr q1, ?_, ?_, ?_, ?_⟩
  · simp; omega
  · simp [over]; omega
  · have hlen : (over vs o cs).length = max (o + cs.length) vs.length := by simp [over]; omega
    have e2 : (List.drop B.base ((c.toList.take (B.base + o + 0) ++ cs' ++ c.toList.drop (B.base + o + 0 + cs'.length)).toArray.toList)).take (over vs o cs).length =
        (((c.toList.drop B.base).take vs.length).take o ++ cs' ++ ((c.toList.drop B.base).take vs.length).drop (o + cs'.length)) := by
      simp only [Nat.add_zero]
      rw [hlen]
      apply List.ext_getElem?
      intro j
      have hsz : c.toList.length = c.size := by simp
      rw [List.getElem?_take]
      by_cases hj : j < max (o + cs.length) vs.length
      · rw [if_pos hj, List.getElem?_drop, get_over _ _ _ _ (by omega), get_over _ _ _ _ (by simp; omega)]
        by_cases j1 : j < o
        · rw [if_pos (by omega), if_pos j1, List.getElem?_take, if_pos (by omega), List.getElem?_drop]
        · rw [if_neg (by omega), if_neg j1]
          by_cases j2 : j < o + cs'.length
          · rw [if_pos (by omega), if_pos j2]
            congr 1; omega
          · rw [if_neg (by omega), if_neg j2, List.getElem?_take, if_pos (by omega), List.getElem?_drop]
      · rw [if_neg hj]
        symm
        apply List.getElem?_eq_none
        simp
        omega
    rw [e2]
    exact q4.over hc o
  · intro _ j a1 a2
    refine q5 rfl j a1 ?_
    rcases a2 with a2 | ⟨a2, a3⟩
    · left
      simp at a2
      omega
    · right
      refine ⟨a2, ?_⟩
      simp at a3
      omega
end
end Ev
end Go.Proofs.YtjmapihogpdocaaGreatDoor

/-! ## EvWrite2 -/
namespace Go.Proofs.YtjmapihogpdocaaGreatDoor
namespace Ev
open Go

section
variable {P : Program} {r : Ren} {w : World} {T : Tab} (hT : TabOk T P)

include hT in
theorem storeOp_ok {m m' : AMem} (hm : MemRel r m.next m.get w) {t : TypeId} {x v : AVal} {x' v' : Value} {u : AVal} (hx : VRel r x x') (hv : VRel r v v') (h : storeOp T m t x v = .val u m') :
    u = .any ∧ ∃ w', (Instr.storeAt t x' v').run P w = .ok () w' ∧ Step r m.next m.get w r m'.next m'.get w' := by
  unfold storeOp at h
  split at h
  · rename_i b o
    obtain ⟨B, hB, rfl⟩ := hx.ptr_inv
    split at h
    · cases h
    · cases h
    · rename_i n1 n2
      split at h
      · rename_i n e vs frz wh hn hg
        split at h
        · rename_i hb
          cases h
          simp only [Bool.and_eq_true] at hb
          obtain ⟨⟨⟨b1, b2⟩, b3⟩, b4⟩ := hb
          have b1 : v.cells.length = n := Nat.eq_of_beq_eq_true b1
          have b3 := Nat.le_of_ble_eq_true b3
          have b4 := Nat.le_of_ble_eq_true b4
          have hc := hv.cells n1 n2
          have hl : v'.cells.size = v.cells.length := by have := hc.len; simpa using this
          obtain ⟨B', hB', c, fr, q1, q2, q3, q4, q5⟩ := hm.blk _ _ hg
          rw [hB] at hB'
          cases hB'
          obtain ⟨w', e1, e2⟩ := write_row (P := P) hm hg hB hc b2 b3 (by omega) (by omega)
          refine ⟨rfl, w', ?_, by rw [AMem.get_set]; exact e2⟩
          have hne : ¬ (v'.cells.size ≠ n) := by omega
          simp only [Instr.storeAt, Instr.sureAddr, storeVar, Sem.run_bind, Sem.run_pure, Result.andThen_ok, run_size hT hn]
          rw [if_neg hne]
          exact e1
        · cases h
      · cases h
  · cases h

/-! Append -/
theorem run_lenOf {x : AVal} {x' : Value} {esz n : Nat} {m : AMem} {cs : List AVal} (hx : VRel r x x') (h : sourceOf m esz x = some (n, cs)) (w1 : World) : (Builtin.lenOf x').run P w1 = .ok n w1 := by
  unfold sourceOf at h
  split at h
  · cases h; rw [hx.nslice_inv]; rfl
  · obtain ⟨B, a, c, hB, rfl, hc, hl, hr⟩ := hx.slice_inv
    split at h
    · split at h
      · split at h
        · cases h; rfl
        · cases h
      · cases h
    · cases h
  · obtain ⟨s', rfl, es⟩ := hx.str_inv
    split at h
    · cases h; rw [← es, data_size]; rfl
    · cases h
  · cases h

theorem cell?_heap {w1 : World} (h : w1.heap = w.heap) (a : Addr) : w1.cell? a = w.cell? a := by simp [World.cell?, h]

theorem MemRel.heap {next : Nat} {g : Nat → Option ABlk} {w1 : World} (hm : MemRel r next g w) (h : w1.heap = w.heap) : MemRel r next g w1 :=
  ⟨hm.fresh, fun b B e => by rw [h]; exact hm.inw b B e, fun b k e => let ⟨B, h1, h2⟩ := hm.blk b k e; ⟨B, h1, h2.mono r.le_refl (by rw [h])⟩, hm.inj, hm.whole⟩

/-- What is appended, read in whatever world has this heap. -/
theorem run_source {x : AVal} {x' : Value} {esz n : Nat} {m : AMem} {cs : List AVal} (hm : MemRel r m.next m.get w) (hx : VRel r x x') (h : sourceOf m esz x = some (n, cs)) :
    cs.length = n * esz ∧ cs.all AVal.one = true ∧ ∃ vs : List Value, VsRel r cs vs ∧ ∀ w1 : World, w1.heap = w.heap → (Builtin.firstCells esz n x').run P w1 = .ok vs.toArray w1 := by
  unfold sourceOf at h
  split at h
  · cases h
    rw [hx.nslice_inv]
    exact ⟨by simp, rfl, [], .nil r, fun w1 _ => rfl⟩
  · rename_i b o len e cap
    obtain ⟨B, a, c, hB, rfl, hc, hl, hr⟩ := hx.slice_inv
    split at h
    · rename_i he
      have he' : e = esz := Nat.eq_of_beq_eq_true he
      subst he'
      split at h
      · rename_i cs2 hrow
        split at h
        · rename_i hall
          cases h
          obtain ⟨vs, v1, v2, v3⟩ := sliceRow_ok (P := P) (k := n * e) hm hB (hr.imp id (·.1)) (fun h0 => Nat.mul_eq_zero.2 (.inl (by omega))) rfl hrow
          exact ⟨v2, hall, vs, v1, v3⟩
        · cases h
      · cases h
    · cases h
  · rename_i s
    obtain ⟨s', rfl, es⟩ := hx.str_inv
    split at h
    · cases h
      refine ⟨by simp, ?_, s'.data.toList.map fun b => Value.int .u8 b.toNat, ?_, fun w1 _ => ?_⟩
      · rw [List.all_eq_true]
        intro v hv
        obtain ⟨b, _, rfl⟩ := List.mem_map.1 hv
        rfl
      · rw [es]
        refine ⟨by simp, fun i v v' a b => ?_⟩
        rw [List.getElem?_map] at a b
        cases hs : s[i]? with
        | none => rw [hs] at a; cases a
        | some c => rw [hs] at a b; cases a; cases b; exact .int _ _
      · have hn : s.length = s'.size := by rw [← es, data_size]
        simp only [Builtin.firstCells, Sem.run_pure]
        congr 1
        apply Array.toList_inj.1
        rw [hn, Array.toList_map]
        have hx : s'.extract 0 s'.size = s' := by
          apply WideShapes.bytes_inj
          rw [Lib.extract_data, List.drop_zero, Nat.sub_zero, ← data_size, List.take_length]
        rw [hx]
    · cases h
  · cases h

def storeBase (base : Option Addr) (k : Nat) (l : List Value) : Sem Unit :=
  match base with
  | some a => storeCells (a.add k) l
  | none => pure ()

theorem append_fits {ts : Array TypeId} {ty st xt e : TypeId} {xd : TypeDesc} {i : TypeInfo} {x : Value} {base : Option Addr} {sLen sCap n : Nat} {news : List Value} {w' : World} {rest : List Value}
    {args : Array Value} (hargs : args.toList = .slice base sLen sCap :: x :: rest) (h0 : ts[0]? = some st) (h1 : ts[1]? = some xt) (hd : P.underlying st = some (.slice e)) (hx : P.underlying xt = some xd) (hxi : (∃ u, xd = .slice u) ∨ xd = .string)
    (hi : P.info? e = some i) (hl : (Builtin.lenOf x).run P w = .ok n w) (hf : (Builtin.firstCells i.size n x).run P w = .ok news.toArray w) (hcap : sLen + n ≤ sCap)
    (hst : ∀ a, base = some a → (storeCells (a.add (sLen * i.size)) news).run P w = .ok () w') (hno : base = none → w' = w) :
    (Builtin.append_ ts ty args).run P w = .ok (.slice base (sLen + n) sCap) w' := by
  have a0 : args[0]? = some (.slice base sLen sCap) := by rw [← Array.getElem?_toList, hargs]; rfl
  have a1 : args[1]? = some x := by rw [← Array.getElem?_toList, hargs]; rfl
  have hsz : (sizeOf e).run P w = .ok i.size w := by simp [sizeOf, typeInfo, hi]
  have key : (Builtin.append_ ts ty args).run P w = ((Builtin.firstCells i.size n x).run P w).andThen fun new w1 =>
      ((storeBase base (sLen * i.size) new.toList).run P w1).andThen fun _ w2 => .ok (.slice base (sLen + n) sCap) w2 := by
    unfold Builtin.append_
    rcases hxi with ⟨u, rfl⟩ | rfl <;> cases base <;> simp [h0, a0, a1, run_underlying hd, h1, hsz, run_underlying hx, hl, hcap, storeBase]
  rw [key, hf]
  cases base with
  | none => have e := hno rfl; subst e; rfl
  | some a => simp [storeBase, hst a rfl]

theorem append_grows {ts : Array TypeId} {ty st xt e : TypeId} {xd : TypeDesc} {i : TypeInfo} {x z : Value} {base : Option Addr} {sLen sCap n : Nat} {olds news : List Value} {rest : List Value}
    {args : Array Value} (hargs : args.toList = .slice base sLen sCap :: x :: rest) (h0 : ts[0]? = some st) (h1 : ts[1]? = some xt) (hd : P.underlying st = some (.slice e)) (hx : P.underlying xt = some xd) (hxi : (∃ u, xd = .slice u) ∨ xd = .string)
    (hi : P.info? e = some i) (hz : i.zero = some z) (hl : ∀ w1, (Builtin.lenOf x).run P w1 = .ok n w1) (hf : (Builtin.firstCells i.size n x).run P w.drew = .ok news.toArray w.drew)
    (hfo : (Builtin.firstCells i.size sLen (.slice base sLen sCap)).run P w.drew = .ok olds.toArray w.drew)
    (hcap : ¬ sLen + n ≤ sCap) (h63 : ((sLen + n : Nat) : Int) ≤ 9223372036854775807) (hfit : Builtin.nextslicecap (sLen + n) sCap * i.bytes ≤ 281474976710656) :
    (Builtin.append_ ts ty args).run P w = .ok (.slice (some ⟨w.heap.size, 0, none⟩) (sLen + n) (grownCap w (sLen + n) sCap e))
      (w.drew.alloc (.cells (olds.toArray ++ news.toArray ++ Builtin.zeroCells z.cells (grownCap w (sLen + n) sCap e - (sLen + n))) e)) := by
  have a0 : args[0]? = some (.slice base sLen sCap) := by rw [← Array.getElem?_toList, hargs]; rfl
  have a1 : args[1]? = some x := by rw [← Array.getElem?_toList, hargs]; rfl
  have hsz : ∀ w1, (sizeOf e).run P w1 = .ok i.size w1 := by intro w1; simp [sizeOf, typeInfo, hi]
  have hti : ∀ w1, (typeInfo e).run P w1 = .ok i w1 := by intro w1; simp [typeInfo, hi]
  have hzv : ∀ w1, (zeroValue e).run P w1 = .ok z w1 := by intro w1; simp [zeroValue, typeInfo, hi, hz]
  have h63' : ¬ (9223372036854775807 < ((sLen : Int) + (n : Int))) := by omega
  have h48' : ¬ (281474976710656 < Builtin.nextslicecap (sLen + n) sCap * i.bytes) := by omega
  have key : (Builtin.append_ ts ty args).run P w = ((Builtin.firstCells i.size sLen (.slice base sLen sCap)).run P w.drew).andThen fun old w1 =>
      ((Builtin.firstCells i.size n x).run P w1).andThen fun new w2 =>
        .ok (.slice (some ⟨w2.heap.size, 0, none⟩) (sLen + n) (grownCap w (sLen + n) sCap e)) { w2 with heap := w2.heap.push (.cells (old ++ new ++ Builtin.zeroCells z.cells (grownCap w (sLen + n) sCap e - (sLen + n))) e) } := by
    unfold Builtin.append_
    rcases hxi with ⟨u, rfl⟩ | rfl <;>
      simp [h0, a0, a1, run_underlying hd, h1, hsz, run_underlying hx, hl, hcap, hti, h63', h48', Question.forced, hzv, newRow, grownCap]
  rw [key, hfo, Result.andThen_ok, hf]
  rfl
end
end Ev
end Go.Proofs.YtjmapihogpdocaaGreatDoor

/-! ## EvWrite3 -/
namespace Go.Proofs.YtjmapihogpdocaaGreatDoor
namespace Ev
open Go

section
variable {P : Program} {r : Ren} {w : World} {next : Nat} {g : Nat → Option ABlk}

theorem MemRel.sub {g' : Nat → Option ABlk} (hm : MemRel r next g w) (h : ∀ b k, g' b = some k → g b = some k) : MemRel r next g' w :=
  ⟨hm.fresh, hm.inw, fun b k e => hm.blk b k (h b k e), fun b1 k1 b2 k2 B1 B2 h1 h2 => hm.inj b1 k1 b2 k2 B1 B2 (h _ _ h1) (h _ _ h2), fun b B e vs ro frz h1 => hm.whole b B e vs ro frz (h _ _ h1)⟩

theorem Step.sub {g' : Nat → Option ABlk} (hm : MemRel r next g w) (h : ∀ b k, g' b = some k → g b = some k) : Step r next g w r next g' w :=
  ⟨r.le_refl, hm.sub h, Nat.le_refl _, rfl, rfl, rfl, Nat.le_refl _, fun _ _ _ => rfl, fun b k B e hB => .inr ⟨b, k, B, h b k e, hB, rfl, id⟩, fun _ _ e => .inl e⟩

def killed (g : Nat → Option ABlk) (b : Nat) : Nat → Option ABlk := fun j => if j = b then none else g j
theorem killed_sub (g : Nat → Option ABlk) (b : Nat) : ∀ j k, killed g b j = some k → g j = some k := by
  intro j k h
  simp only [killed] at h
  split at h
  · cases h
  · exact h

/-- A row goes on under another name, from a place on. -/
theorem step_move (hm : MemRel r next g w) {b o : Nat} {e : TypeId} {vs vs2 : List AVal} {frz : Nat} {B : Blk} {wh : Bool} (hb : g b = some (.cells e vs false frz wh)) (hB : r.at_ b = some B)
    (h2 : ∃ k, vs2 = (vs.drop o).take k) (ho : o ≤ vs.length) :
    Step r next g w (r.ext next ⟨B.cb, B.base + o, B.size⟩) (next + 1) (upd (killed g b) next (.cells e vs2 false (frz - o) false)) w := by
  obtain ⟨hn1, hn2⟩ := hm.none_at (Nat.le_refl next)
  have hle := Ren.ext_le (B := ⟨B.cb, B.base + o, B.size⟩) hn1
  have old : ∀ b B', b ≠ next → (r.ext next ⟨B.cb, B.base + o, B.size⟩).at_ b = some B' → r.at_ b = some B' := fun b B' e hb => by simpa [Ren.ext, e] using hb
  obtain ⟨B', hB', c, fr, q1, q2, q3, q4, q5⟩ := hm.blk _ _ hb
  rw [hB] at hB'
  cases hB'
  refine ⟨hle, ⟨?_, ?_, ?_, ?_, ?_⟩, Nat.le_succ _, rfl, rfl, rfl, Nat.le_refl _, fun _ _ _ => rfl, ?_, ?_⟩
  · intro j Bj hj
    by_cases e : j = next
    · omega
    · exact Nat.lt_succ_of_lt (hm.fresh j Bj (old j Bj e hj))
  · intro j Bj hj
    by_cases e : j = next
    · subst e; rw [Ren.ext_same] at hj; cases hj; exact hm.inw b B hB
    · exact hm.inw j Bj (old j Bj e hj)
  · intro j kj hj
    simp only [upd] at hj
    by_cases e : j = next
    · rw [if_pos e] at hj
      cases hj
      subst e
      refine ⟨_, Ren.ext_same r j _, c, fr, q1, q2, ?_, ?_, ?_⟩
      · obtain ⟨k, rfl⟩ := h2
        simp only [List.length_take, List.length_drop]
        omega
      · obtain ⟨k, rfl⟩ := h2
        have := ((q4.drop o).take k).mono hle
        have e2 : (List.take k (List.drop o (List.take vs.length (List.drop B.base c.toList)))) = List.take (List.take k (List.drop o vs)).length (List.drop (B.base + o) c.toList) := by
          apply List.ext_getElem?
          intro i
          simp only [List.getElem?_take, List.getElem?_drop, List.length_take, List.length_drop]
          by_cases c1 : i < k
          · by_cases c2 : o + i < vs.length
            · rw [if_pos c1, if_pos c2, if_pos (by omega)]
              congr 1; omega
            · rw [if_pos c1, if_neg c2, if_neg (by omega)]
          · rw [if_neg c1, if_neg (by omega)]
        rw [e2] at this
        exact this
      · intro _ i a1 a2
        exact q5 rfl i (by simp only at a1; omega) (.inl (a2.resolve_right fun h => Bool.noConfusion h.1))
    · rw [if_neg e] at hj
      obtain ⟨Bj, r1, r2⟩ := hm.blk j kj (killed_sub g b j kj hj)
      exact ⟨Bj, hle j Bj r1, r2.mono hle rfl⟩
  · intro b1 k1 b2 k2 B1 B2 g1 g2 r1 r2 hw hc
    simp only [upd] at g1 g2
    have other : ∀ j kj Bj, j ≠ next → killed g b j = some kj → (r.ext next ⟨B.cb, B.base + o, B.size⟩).at_ j = some Bj → Bj.cb ≠ B.cb := by
      intro j kj Bj ej hj rj hcb
      have hjg := killed_sub g b j kj hj
      have := hm.inj b _ j kj B Bj hb hjg hB (old j Bj ej rj) rfl hcb.symm
      subst this
      simp [killed] at hj
    by_cases e1 : b1 = next
    · by_cases e2 : b2 = next
      · rw [e1, e2]
      · rw [if_neg e2] at g2
        rw [e1, Ren.ext_same] at r1
        cases r1
        exact absurd hc.symm (other b2 k2 B2 e2 g2 r2)
    · rw [if_neg e1] at g1
      by_cases e2 : b2 = next
      · rw [e2, Ren.ext_same] at r2
        cases r2
        exact absurd hc (other b1 k1 B1 e1 g1 r1)
      · rw [if_neg e2] at g2
        exact hm.inj b1 k1 b2 k2 B1 B2 (killed_sub g b _ _ g1) (killed_sub g b _ _ g2) (old _ _ e1 r1) (old _ _ e2 r2) hw hc
  · intro j Bj e2 vs3 ro3 frz3 hj rj
    simp only [upd] at hj
    by_cases e : j = next
    · rw [if_pos e] at hj; cases hj
    · rw [if_neg e] at hj
      exact hm.whole j Bj e2 vs3 ro3 frz3 (killed_sub g b j _ hj) (old j Bj e rj)
  · intro j kj Bj hj rj
    right
    simp only [upd] at hj
    by_cases e : j = next
    · rw [e, Ren.ext_same] at rj
      cases rj
      exact ⟨b, _, B, hb, hB, rfl, fun _ => rfl⟩
    · rw [if_neg e] at hj
      exact ⟨j, kj, Bj, killed_sub g b j kj hj, old j Bj e rj, rfl, id⟩
  · intro j Bj hj
    by_cases e : j = next
    · right; omega
    · left; exact old j Bj e hj

variable {T : Tab} (hT : TabOk T P)

/-- What a new row holds behind an append that has grown. -/
theorem grown_made (hm : MemRel r next g w) {e : TypeId} {i : TypeInfo} {z : Value} {zc : List AVal} (hzc : VsRel r zc z.cells.toList) (hzl : zc.length = i.size) {sLen sCap n : Nat} {olds news : List AVal} {olds' news' : List Value}
    (ho : VsRel r olds olds') (hnw : VsRel r news news') (hol : olds.length = sLen * i.size) (hnl : news.length = n * i.size) :
    ∃ B, Made r next w (.cells e (olds ++ news) false 0 false) (.slice next 0 (sLen + n) i.size (.least (sLen + n)))
      (.slice (some ⟨w.heap.size, 0, none⟩) (sLen + n) (grownCap w (sLen + n) sCap e))
      (w.drew.alloc (.cells (olds'.toArray ++ news'.toArray ++ Builtin.zeroCells z.cells (grownCap w (sLen + n) sCap e - (sLen + n))) e)) B := by
  have hid := (hm.none_at (Nat.le_refl next)).1
  have l1 := ho.len
  have l2 := hnw.len
  have hcap := grownCap_ge w (sLen + n) sCap e
  have hzs : z.cells.size = i.size := by have := hzc.len; simp at this; omega
  have hmul : (sLen + n) * i.size = sLen * i.size + n * i.size := Nat.add_mul _ _ _
  have hsz : (olds'.toArray ++ news'.toArray ++ Builtin.zeroCells z.cells (grownCap w (sLen + n) sCap e - (sLen + n))).size = grownCap w (sLen + n) sCap e * i.size := by
    simp only [Array.size_append, List.size_toArray, Builtin.zeroCells, Array.size_map, Array.size_range, hzs, l1, l2, hol, hnl]
    rw [← hmul, ← Nat.add_mul]
    congr 1
    omega
  refine ⟨_, made_row false (fr := (0, 0)) hid rfl rfl rfl rfl ?_ ?_ (fun j _ h => by simp at h) ?_ (fun h => Bool.noConfusion h)⟩
  · have : (olds ++ news).length = (olds' ++ news').length := by simp [l1, l2]
    simp only [Array.toList_append]
    rw [this, List.take_left']
    · exact ho.append hnw
    · simp
  · rw [hsz]
    simp only [List.length_append, hol, hnl]
    rw [← hmul]
    exact Nat.mul_le_mul_right _ hcap
  · refine .slice next 0 _ i.size _ _ _ _ (Ren.ext_same r next _) hcap hcap (.inr ⟨rfl, ?_⟩)
    simp only [Nat.zero_add]
    rw [hsz]
    exact Nat.le_refl _
end
end Ev
end Go.Proofs.YtjmapihogpdocaaGreatDoor

/-! ## EvAppend -/
namespace Go.Proofs.YtjmapihogpdocaaGreatDoor
namespace Ev
open Go

section
variable {P : Program} {r : Ren} {w : World} {T : Tab} (hT : TabOk T P)

theorem over_drop (vs cs : List AVal) (o k : Nat) (h : o + k ≤ vs.length) : ((over vs (o + k) cs).drop o).take (k + cs.length) = (vs.drop o).take k ++ cs := by
  unfold over
  apply List.ext_getElem?
  intro j
  rw [List.getElem?_take]
  by_cases c : j < k + cs.length
  · rw [if_pos c, List.getElem?_drop, get_over _ _ _ _ h, List.getElem?_append]
    have hl : ((vs.drop o).take k).length = k := by simp; omega
    rw [hl]
    by_cases c1 : j < k
    · rw [if_pos (by omega), if_pos c1, List.getElem?_take, if_pos c1, List.getElem?_drop]
    · rw [if_neg (by omega), if_pos (by omega), if_neg c1]
      congr 1; omega
  · rw [if_neg c]
    symm
    apply List.getElem?_eq_none
    simp
    omega

include hT in
theorem appendOp_ok {m m' : AMem} (hm : MemRel r m.next m.get w) {ts : Array TypeId} {ty : TypeId} {args : List AVal} {args' : Array Value} {v : AVal} (ha : VsRel r args args'.toList)
    (h : appendOp T m ts args = .val v m') : ∃ v' w' r', (Builtin.append_ ts ty args').run P w = .ok v' w' ∧ VRel r' v v' ∧ Step r m.next m.get w r' m'.next m'.get w' := by
  unfold appendOp at h
  split at h
  · rename_i s x st xt h0 h1
    obtain ⟨s', rest, es, hs, ha2⟩ := ha.cons_inv
    obtain ⟨x', rest2, ex, hx, ha3⟩ := ha2.cons_inv
    rw [ha3.nil_inv] at ex
    rw [ex] at es
    split at h
    · rename_i e xd hd hxd
      split at h
      · rename_i i z hxk hi hz
        have hxi : (∃ u, xd = .slice u) ∨ xd = .string := by
          cases xd <;> first | exact .inl ⟨_, rfl⟩ | exact .inr rfl | (simp at hxk)
        obtain ⟨z', hiz, hzz⟩ : ∃ z', i.zero = some z' ∧ z = absV z' := by
          unfold Tab.zero at hz
          rw [hi] at hz
          simp only at hz
          split at hz
          · rename_i z' hzz; cases hz; exact ⟨z', hzz, rfl⟩
          · cases hz
        have hzr : VRel r z z' := by rw [hzz]; exact absV_rel r z'
        split at h
        · rename_i n cs hzl hsrc
          rw [Bool.and_eq_true] at hzl
          have hzlen : z.cells.length = i.size := Nat.eq_of_beq_eq_true hzl.1
          have hzc := hzr.fine_cells hzl.2
          obtain ⟨s1, s2, news, s3, s4⟩ := run_source (P := P) hm hx hsrc
          have hlen := run_lenOf (P := P) hx hsrc
          have hi' := hT.info _ _ hi
          split at h
          · -- nothing is appended
            have hcs : cs = [] := List.length_eq_zero_iff.1 (by rw [s1]; simp)
            have hnews : news = [] := by rw [hcs] at s3; exact s3.nil_inv
            subst hnews
            split at h
            · cases h
              rw [hs.nslice_inv] at es
              exact ⟨.slice none 0 0, w, r, append_fits es h0 h1 (hT.und hd) (hT.und hxd) hxi hi' (hlen w) (s4 w rfl) (Nat.le_refl _) (fun a e => by cases e) (fun _ => rfl), .nslice, .refl hm⟩
            · rename_i b o len esz c
              cases h
              obtain ⟨B, a, k, hB, e1, hc, hl, hr⟩ := hs.slice_inv
              rw [e1] at es hs
              exact ⟨_, w, r, append_fits (w' := w) es h0 h1 (hT.und hd) (hT.und hxd) hxi hi' (hlen w) (s4 w rfl) hl (fun a _ => rfl) (fun e => by cases e), hs, .refl hm⟩
            · cases h
          · rename_i n'
            generalize hq : n'.succ = q at h s1 hsrc s4 hlen
            have hq0 : 0 < q := by omega
            split at h
            · -- onto nil
              split at h
              · rename_i hb
                cases h
                simp only [Bool.and_eq_true] at hb
                obtain ⟨⟨b1, b2⟩, b3⟩ := hb
                have b1 := Nat.le_of_ble_eq_true b1
                have b2 := Nat.le_of_ble_eq_true b2
                rw [hs.nslice_inv] at es
                obtain ⟨hn1, hn2⟩ := hm.none_at (Nat.le_refl m.next)
                obtain ⟨B, hB⟩ := grown_made (sLen := 0) (sCap := 0) (n := q) hm (e := e) hzc hzlen (VsRel.nil r) s3 (by simp) s1
                have hst := hB.new hm hn2
                refine ⟨_, _, r.ext m.next B, append_grows es h0 h1 (hT.und hd) (hT.und hxd) hxi hi' hiz hlen (s4 _ rfl) (olds := []) rfl (by omega) (by omega)
                  (growslice_fits (by omega) (by rw [Nat.zero_add]; omega)), ?_, ?_⟩
                · have := hB.val
                  simpa using this
                · rw [AMem.get_new]
                  simpa [AMem.new] using hst
              · cases h
            · rename_i b o len esz c
              obtain ⟨B, a, k, hB, e1, hc, hl, hr⟩ := hs.slice_inv
              rw [e1] at es
              split at h
              · cases h
              · rename_i hb
                simp only [Bool.and_eq_true] at hb
                obtain ⟨⟨⟨b0, b1⟩, b2⟩, b3⟩ := hb
                have b0 : esz = i.size := Nat.eq_of_beq_eq_true b0
                subst b0
                have b1 := Nat.le_of_ble_eq_true b1
                have b2 := Nat.le_of_ble_eq_true b2
                split at h
                · rename_i eb vs ro frz wh hg
                  split at h
                  · cases h
                  · rename_i hlv
                    have hlv := Nat.le_of_ble_eq_true hlv
                    have hlow := Cap.low_le hc
                    have hmul : (len + q) * i.size = len * i.size + q * i.size := Nat.add_mul _ _ _
                    split at h
                    · -- there is room for sure
                      rename_i hfit
                      have hfit := Nat.le_of_ble_eq_true hfit
                      split at h
                      · rename_i hrf
                        cases h
                        simp only [Bool.and_eq_true, Bool.not_eq_true'] at hrf
                        obtain ⟨hro, hfz⟩ := hrf
                        subst hro
                        have hfz := Nat.le_of_ble_eq_true hfz
                        rcases hr with hr | ⟨ha', hroom⟩
                        · omega
                        · have hk : (len + q) * i.size ≤ k * i.size := Nat.mul_le_mul_right _ (by omega)
                          obtain ⟨w', e2, e3⟩ := write_row (P := P) hm hg hB s3 s2 hfz hlv (by omega)
                          refine ⟨_, w', r, append_fits es h0 h1 (hT.und hd) (hT.und hxd) hxi hi' (hlen w) (s4 w rfl) (by omega) ?_ (fun e => by cases e), ?_, ?_⟩
                          · intro a2 e4
                            cases e4
                            rw [ha', Addr_add, Nat.add_assoc]
                            exact e2
                          · exact .slice b o _ i.size c B a k hB hc (by omega) (.inr ⟨ha', hroom⟩)
                          · rw [AMem.get_set]; exact e3
                      · cases h
                    · rename_i hnofit
                      have hnofit : ¬ len + q ≤ c.low := fun hle => by rw [Nat.ble_eq_true_of_le hle] at hnofit; cases hnofit
                      split at h
                      · cases h
                      · rename_i hold
                        -- what it held
                        have hrow : rowOf m.get b o (len * i.size) = some ((vs.drop o).take (len * i.size)) := by
                          unfold rowOf; rw [hg]; simp only; rw [Nat.ble_eq_true_of_le hlv]
                        obtain ⟨olds, o1, o2, o3⟩ := sliceRow_ok (P := P) (k := len * i.size) hm hB (hr.imp id (·.1)) (fun h0 => Nat.mul_eq_zero.2 (.inl (by omega))) rfl hrow
                        have grow : ¬ len + q ≤ k → ∃ B', Made r m.next w (.cells e ((vs.drop o).take (len * i.size) ++ cs) false 0 false) (.slice m.next 0 (len + q) i.size (.least (len + q)))
                            (.slice (some ⟨w.heap.size, 0, none⟩) (len + q) (grownCap w (len + q) k e))
                            (w.drew.alloc (.cells (olds.toArray ++ news.toArray ++ Builtin.zeroCells z'.cells (grownCap w (len + q) k e - (len + q))) e)) B' ∧
                            (Builtin.append_ ts ty args').run P w = .ok (.slice (some ⟨w.heap.size, 0, none⟩) (len + q) (grownCap w (len + q) k e))
                            (w.drew.alloc (.cells (olds.toArray ++ news.toArray ++ Builtin.zeroCells z'.cells (grownCap w (len + q) k e - (len + q))) e)) := by
                          intro hno
                          obtain ⟨B', hB'⟩ := grown_made (sLen := len) (sCap := k) (n := q) hm (e := e) hzc hzlen o1 s3 o2 s1
                          exact ⟨B', hB', append_grows es h0 h1 (hT.und hd) (hT.und hxd) hxi hi' hiz hlen (s4 _ rfl) (o3 _ rfl) hno (by omega) (growslice_fits (by omega) (by omega))⟩
                        obtain ⟨hn1, hn2⟩ := hm.none_at (Nat.le_refl m.next)
                        split at h
                        · -- its capacity is known: it grows
                          cases h
                          obtain ⟨B', hB', hrun⟩ := grow (by simp only [Cap.holds, Cap.low] at hc hnofit; omega)
                          refine ⟨_, _, r.ext m.next B', hrun, hB'.val, ?_⟩
                          rw [AMem.get_new]
                          exact hB'.new hm hn2
                        · -- it may grow
                          rename_i low
                          split at h
                          · rename_i hrf
                            cases h
                            simp only [Bool.and_eq_true, Bool.not_eq_true'] at hrf
                            obtain ⟨⟨hro, hfz⟩, heb⟩ := hrf
                            subst hro
                            have hfz := Nat.le_of_ble_eq_true hfz
                            have heb : eb = e := Nat.eq_of_beq_eq_true heb
                            subst heb
                            by_cases hcap : len + q ≤ k
                            · rcases hr with hr | ⟨ha', hroom⟩
                              · omega
                              · have hk : (len + q) * i.size ≤ k * i.size := Nat.mul_le_mul_right _ hcap
                                obtain ⟨w', e2, e3⟩ := write_row (P := P) hm hg hB s3 s2 hfz hlv (by omega)
                                have hmv := step_move (wh := wh) (vs := over vs (o + len * i.size) cs) (frz := frz) (e := eb) (o := o) (b := b) (B := B) e3.mem (by simp [upd]) hB
                                  ⟨len * i.size + cs.length, rfl⟩ (by simp [over]; omega)
                                rw [over_drop _ _ _ _ hlv] at hmv
                                refine ⟨_, w', r.ext m.next ⟨B.cb, B.base + o, B.size⟩, append_fits es h0 h1 (hT.und hd) (hT.und hxd) hxi hi' (hlen w) (s4 w rfl) hcap ?_ (fun e => by cases e), ?_, ?_⟩
                                · intro a2 e4
                                  cases e4
                                  rw [ha', Addr_add, Nat.add_assoc]
                                  exact e2
                                · refine .slice m.next 0 _ i.size _ _ a k (Ren.ext_same r m.next _) hcap hcap (.inr ⟨by rw [ha']; rfl, ?_⟩)
                                  simp only [Nat.add_zero]
                                  exact hroom
                                · have hst := e3.trans hmv
                                  have eg : (upd (killed (upd m.get b (.cells eb (over vs (o + len * i.size) cs) false frz wh)) b) m.next (.cells eb ((vs.drop o).take (len * i.size) ++ cs) false (frz - o) false)) =
                                      ((m.kill b).new (.cells eb ((vs.drop o).take (len * i.size) ++ cs) false (frz - o) false)).get := by
                                    rw [AMem.get_new, AMem.get_kill]
                                    show _ = upd (fun j => if j = b then none else m.get j) m.next _
                                    funext j
                                    simp only [upd, killed]
                                    by_cases j1 : j = m.next
                                    · rw [if_pos j1, if_pos j1]
                                    · rw [if_neg j1, if_neg j1]
                                      by_cases j2 : j = b
                                      · rw [if_pos j2, if_pos j2]
                                      · rw [if_neg j2, if_neg j2, if_neg j2]
                                  rw [← eg]
                                  exact hst
                            · obtain ⟨B', hB', hrun⟩ := grow hcap
                              have hk1 := Step.sub hm (killed_sub m.get b)
                              have hB2 : Made r m.next w (.cells eb ((vs.drop o).take (len * i.size) ++ cs) false (frz - o) false) _ _ _ B' := ⟨hB'.cb, hB'.heap, hB'.os, hB'.tape, hB'.output, by
                                obtain ⟨c1, fr1, t1, t2, t3, t4, t5⟩ := hB'.blk
                                exact ⟨c1, fr1, t1, t2, t3, t4, fun _ j u1 u2 => t5 rfl j (by omega) u2⟩, hB'.val, fun e vs ro frz h => by cases h⟩
                              have hk2 := hB2.new hk1.mem (by simp [killed, hn2])
                              refine ⟨_, _, r.ext m.next B', hrun, hB'.val, ?_⟩
                              have hst := hk1.trans hk2
                              rw [AMem.get_new, AMem.get_kill]
                              exact hst
                          · cases h
                · cases h
            · cases h
        · cases h
      · cases h
    · cases h
  · cases h
end
end Ev
end Go.Proofs.YtjmapihogpdocaaGreatDoor

/-! ## EvWrites -/
namespace Go.Proofs.YtjmapihogpdocaaGreatDoor
namespace Ev
open Go

section
variable {P : Program} {r : Ren} {w : World} {T : Tab} (hT : TabOk T P)

theorem run_setMap {b : Nat} {es : Array MapEntry} {clock : Nat} {o : Obj} (h : w.heap[b]? = some (.map es clock)) : (setObj b o).run P w = .ok () { w with heap := w.heap.setIfInBounds b o } := by
  simp [setObj, Sem.run, h]
theorem run_setMiter {b since last : Nat} {m : Option Nat} {seen : Array Nat} {o : Obj} (h : w.heap[b]? = some (.mapIter m since seen last)) : (setObj b o).run P w = .ok () { w with heap := w.heap.setIfInBounds b o } := by
  simp [setObj, Sem.run, h]
theorem run_setIter {b : Nat} {s : ByteArray} {pos : Nat} {o : Obj} (h : w.heap[b]? = some (.stringIter s pos)) : (setObj b o).run P w = .ok () { w with heap := w.heap.setIfInBounds b o } := by
  simp [setObj, Sem.run, h]

theorem setNth_rel {es : List (AVal × AVal)} {es' : List MapEntry} (h : EntRel r es es') {i : Nat} {k v : AVal} {k' v' : Value} (hk : VRel r k k') (hv : VRel r v v') (hi : i < es.length) :
    EntRel r (setNth es i k v) (es'.modify i fun e => { e with key := k', val := v' }) := by
  induction es generalizing es' i with
  | nil => simp at hi
  | cons e es ih =>
    cases es' with
    | nil => have := h.1; simp at this
    | cons e' es' =>
      cases i with
      | zero =>
        refine ⟨by simpa [setNth] using h.1, fun j u u' a b => ?_⟩
        simp only [setNth, List.modify_zero_cons] at a b
        cases j with
        | zero => simp at a b; subst a; subst b; exact ⟨hk, hv⟩
        | succ j => exact h.tail.2 j u u' (by simpa using a) (by simpa using b)
      | succ i =>
        have := ih h.tail (i := i) (by simpa using hi)
        simp only [setNth, List.modify_succ_cons]
        refine ⟨by simpa using this.1, fun j u u' a b => ?_⟩
        cases j with
        | zero => simp at a b; subst a; subst b; exact h.head
        | succ j => exact this.2 j u u' (by simpa using a) (by simpa using b)

theorem push_rel {es : List (AVal × AVal)} {es' : List MapEntry} (h : EntRel r es es') {k v : AVal} {e' : MapEntry} (hk : VRel r k e'.key) (hv : VRel r v e'.val) :
    EntRel r (es ++ [(k, v)]) (es' ++ [e']) := by
  refine ⟨by simp [h.1], fun i u u' a b => ?_⟩
  rw [List.getElem?_append] at a b
  rw [h.1] at b
  by_cases c : i < es.length
  · rw [if_pos c] at a b; exact h.2 i u u' a b
  · rw [if_neg c] at a b
    cases hj : i - es.length with
    | zero => rw [hj] at a b; simp at a b; subst a; subst b; exact ⟨hk, hv⟩
    | succ j => rw [hj] at a; simp at a

theorem cell_bits {x y : AVal} {x' : Value} (hx : VRel r x x') (h : cellEq x y = some true) (n : Nat) : Instr.sameBits n x' x' = true := by
  unfold cellEq at h
  split at h
  · rw [hx.int_inv]; cases n <;> simp [Instr.sameBits]
  · obtain ⟨s1, rfl, e1⟩ := hx.str_inv
    have : (s1 == s1) = true := by rw [string_beq]; simp
    cases n <;> simp [Instr.sameBits, this]
  · rw [hx.bool_inv]; cases n <;> simp [Instr.sameBits]
  · cases h
theorem cells_bits (n : Nat) : ∀ {as bs : List AVal} {as' : List Value}, VsRel r as as' → keyCells as bs = some true → (as'.zip as').all (fun p => Instr.sameBits n p.1 p.2) = true := by
  intro as
  induction as with
  | nil => intro bs as' ha _; rw [ha.nil_inv]; rfl
  | cons x as ih =>
    intro bs as' ha h
    cases bs with
    | nil => cases h
    | cons y bs =>
      obtain ⟨x', t1, rfl, hx, ht1⟩ := ha.cons_inv
      simp only [keyCells] at h
      split at h
      · rename_i he
        simp only [List.zip_cons_cons, List.all_cons, Bool.and_eq_true]
        exact ⟨cell_bits hx he n, ih ht1 h⟩
      · cases h
      · cases h

theorem sameBits_refl {d : TypeDesc} {x y : AVal} {x' y' : Value} (hx : VRel r x x') (hy : VRel r y y') (h : keyEq d x y = some true) (n : Nat) : Instr.sameBits (n + 1) y' x' = true := by
  unfold keyEq at h
  split at h
  · rename_i k a k' b
    by_cases e : k = k'
    · rw [if_pos e] at h
      subst e
      simp at h
      subst h
      rw [hx.int_inv, hy.int_inv]
      simp [Instr.sameBits]
    · rw [if_neg e] at h; cases h
  · obtain ⟨s1, rfl, e1⟩ := hx.str_inv
    obtain ⟨s2, rfl, e2⟩ := hy.str_inv
    simp only [Option.some.injEq] at h
    have : (s2 == s1) = true := by
      rw [string_beq, e1, e2]
      rw [bytesEq_eq] at h
      simp at h
      simp [h]
    simp [Instr.sameBits, this]
  · simp at h
    subst h
    rw [hx.bool_inv, hy.bool_inv]
    simp [Instr.sameBits]
  · rename_i fs as bs
    obtain ⟨as', rfl, h1⟩ := hx.agg_inv
    obtain ⟨bs', rfl, h2⟩ := hy.agg_inv
    have e := (keyCells_val h1 h2 h).1 rfl
    have e2 : bs' = as' := Array.toList_inj.1 e
    subst e2
    simp only [Instr.sameBits, beq_self_eq_true, Bool.true_and]
    exact cells_bits n h1 h
  · cases h

/-- The key that was found is the key that was asked for. -/
theorem findKey_hit {d : TypeDesc} {x : AVal} : ∀ {es : List (AVal × AVal)} {i j : Nat} {v : AVal}, findKey d x es i = some (some (j, v)) → ∃ k, es[j - i]? = some (k, v) ∧ keyEq d x k = some true ∧ i ≤ j := by
  intro es
  induction es with
  | nil => intro i j v h; cases h
  | cons e es ih =>
    intro i j v h
    obtain ⟨k, u⟩ := e
    simp only [findKey] at h
    split at h
    · rename_i hk
      cases h
      exact ⟨k, by simp, hk, Nat.le_refl _⟩
    · obtain ⟨k2, h1, h2, h3⟩ := ih h
      refine ⟨k2, ?_, h2, by omega⟩
      rw [show j - i = (j - (i + 1)) + 1 from by omega, List.getElem?_cons_succ]
      exact h1
    · cases h

theorem findKey_miss {d : TypeDesc} {x : AVal} : ∀ {es : List (AVal × AVal)} {i : Nat}, findKey d x es i = some none → ∀ e ∈ es, keyEq d x e.1 = some false := by
  intro es
  induction es with
  | nil => intro i _ e he; cases he
  | cons e es ih =>
    intro i h e' he'
    obtain ⟨k, u⟩ := e
    simp only [findKey] at h
    split at h
    · cases h
    · rename_i hk
      rcases List.mem_cons.1 he' with c | c
      · subst c; exact hk
      · exact ih h e' c
    · cases h

/-- What the keys' comparison says of the values. -/
theorem keyEq_val {r : Ren} {d : TypeDesc} {x k : AVal} {x' k' : Value} {b : Bool} (hx : VRel r x x') (hk : VRel r k k') (h : keyEq d x k = some b) : (b = true → k' = x') ∧ (b = false → k' ≠ x') := by
  unfold keyEq at h
  split at h
  · rename_i k1 a k2 c
    by_cases e : k1 = k2
    · rw [if_pos e] at h
      subst e
      rw [hx.int_inv, hk.int_inv]
      cases h
      refine ⟨fun e => by simp at e; rw [e], fun e c => ?_⟩
      cases c
      simp at e
    · rw [if_neg e] at h; cases h
  · obtain ⟨s1, rfl, e1⟩ := hx.str_inv
    obtain ⟨s2, rfl, e2⟩ := hk.str_inv
    simp only [Option.some.injEq] at h
    rw [bytesEq_eq] at h
    subst h
    refine ⟨fun e => ?_, fun e c => ?_⟩
    · simp only [beq_iff_eq] at e
      have : s1.data = s2.data := by
        apply Array.toList_inj.1
        rw [e1, e2, e]
      cases s1; cases s2
      simp only at this
      rw [this]
    · cases c
      rw [← e1, ← e2] at e
      simp at e
  · cases h
    rw [hx.bool_inv, hk.bool_inv]
    refine ⟨fun e => by simp at e; rw [e], fun e c => ?_⟩
    cases c
    simp at e
  · obtain ⟨as', rfl, h1⟩ := hx.agg_inv
    obtain ⟨bs', rfl, h2⟩ := hk.agg_inv
    obtain ⟨i1, i2⟩ := keyCells_val h1 h2 h
    refine ⟨fun e => by rw [Array.toList_inj.1 (i1 e)], fun e c => ?_⟩
    exact i2 e (by rw [Value.agg.inj c])
  · cases h

include hT in
theorem mapUpdateOp_ok {m m' : AMem} (hm : MemRel r m.next m.get w) {mt : TypeId} {x k v u : AVal} {x' k' v' : Value} (hx : VRel r x x') (hk : VRel r k k') (hv : VRel r v v')
    (h : mapUpdateOp T m mt x k v = .val u m') : u = .any ∧ ∃ w', (Instr.mapUpdate mt x' k' v').run P w = .ok () w' ∧ Step r m.next m.get w r m'.next m'.get w' := by
  obtain ⟨N, hN⟩ : ∃ N, (10000 : Nat) = N + 1 + 1 := ⟨9998, rfl⟩
  unfold mapUpdateOp at h
  split at h
  · rename_i kt et hd
    split at h
    · rename_i d b hd2
      obtain ⟨B, hB, rfl⟩ := hx.map_inv
      split at h
      · rename_i es bs clock hg
        obtain ⟨B', hB', es', q1, q2, q3, q4⟩ := hm.blk _ _ hg
        rw [hB] at hB'
        cases hB'
        split at h
        · cases h
        · rename_i hfit
          have hck := checkKey_ok (w := w) hT N false (hT.und hd2) hk hfit
          rw [← hN] at hck
          have upd_step : ∀ (es2 : List (AVal × AVal)) (bs2 : List Nat) (o : Array MapEntry) (cl : Nat), EntRel r es2 o.toList → MapKept.Stamped o cl → o.toList.map (·.born) = bs2 →
              Step r m.next m.get w r (m.set b (.map es2 bs2 cl)).next (m.set b (.map es2 bs2 cl)).get { w with heap := w.heap.setIfInBounds B.cb (.map o cl) } := by
            intro es2 bs2 o cl hrel hsta hborn
            have hlt := hm.inw b B hB
            rw [AMem.get_set]
            refine step_upd hm hg rfl hB ⟨o, ?_, hrel, hsta, hborn⟩ (fun e vs ro frz h => by cases h) (by simp) rfl rfl rfl (fun cb hne => ?_)
            · simp [hlt]
            · simp [hne.symm]
          split at h
          · rename_i i old hf
            cases h
            refine ⟨rfl, _, ?_, upd_step _ _ (es'.modify i fun e => { e with key := k', val := v' }) clock ?_ ?_ ?_⟩
            · rcases findKey_run (w := w) hT (hT.und hd2) hk hfit q2 hf with ⟨h1, _⟩ | ⟨j, u0, u', h1, hfk, h3, h5⟩
              · cases h1
              · cases h1
                obtain ⟨k2, g1, g2, _⟩ := findKey_hit hf
                rw [Nat.sub_zero] at g1
                have hes : ∃ e', es'[i]? = some e' := by
                  have hlt : i < es'.toList.length := by
                    rw [q2.1]
                    exact h5
                  exact ⟨es'[i]'(by simpa using hlt), by simp at hlt; simp [hlt]⟩
                obtain ⟨e', he'⟩ := hes
                have hrelk := (q2.2 i _ e' g1 (by rw [Array.getElem?_toList]; exact he')).1
                have hbits := sameBits_refl hk hrelk g2 9999
                have hstay : (Instr.keyThatStays (((es'[i]?).map (·.key)).getD k') k').run P w = .ok k' w := by
                  simp [Instr.keyThatStays, he', hbits]
                simp only [Instr.mapUpdate, Sem.run_bind, run_und hT hd, Result.andThen_ok, run_getMap q1, hck, hfk, hstay, run_setMap q1]
            · rcases findKey_run (w := w) hT (hT.und hd2) hk hfit q2 hf with ⟨h1, _⟩ | ⟨j, u0, u', h1, hfk, h3, h5⟩
              · cases h1
              · cases h1
                rw [Array.toList_modify]
                exact setNth_rel q2 hk hv h5
            · obtain ⟨k2, g1, g2, _⟩ := findKey_hit hf
              rw [Nat.sub_zero] at g1
              refine MapKept.stamped_modify q3 i _ (fun _ _ => rfl) fun e' _ he' => ?_
              exact (keyEq_val hk (q2.2 i _ e' g1 (by rw [Array.getElem?_toList]; exact he')).1 g2).1 rfl |>.symm
            · rw [← q4, Array.toList_modify]
              apply List.ext_getElem?
              intro j
              simp only [List.getElem?_map, List.getElem?_modify]
              cases es'.toList[j]? with
              | none => simp
              | some e => by_cases hij : i = j <;> simp [hij]
          · rename_i hf
            cases h
            refine ⟨rfl, _, ?_, upd_step _ _ (es'.push { key := k', val := v', born := clock }) (clock + 1) ?_ ?_ ?_⟩
            · rcases findKey_run (w := w) hT (hT.und hd2) hk hfit q2 hf with ⟨_, hfk⟩ | ⟨j, u0, u', h1, _⟩
              · simp only [Instr.mapUpdate, Sem.run_bind, run_und hT hd, Result.andThen_ok, run_getMap q1, hck, hfk, run_setMap q1]
              · cases h1
            · rw [Array.toList_push]
              exact push_rel q2 hk hv
            · refine MapKept.stamped_push q3 fun y hy => ?_
              obtain ⟨j, hj⟩ := List.mem_iff_getElem?.1 hy
              have hjl : j < es.length := by rw [← q2.1]; exact (List.getElem?_eq_some_iff.1 hj).1
              have he := List.getElem?_eq_getElem hjl
              exact (keyEq_val hk (q2.2 j _ y he hj).1 (findKey_miss hf _ (List.getElem_mem hjl))).2 rfl
            · rw [Array.toList_push, List.map_append, q4]
              rfl
          · cases h
      · cases h
    · cases h
  · cases h
end
end Ev
end Go.Proofs.YtjmapihogpdocaaGreatDoor

/-! ## EvWrites2 -/
namespace Go.Proofs.YtjmapihogpdocaaGreatDoor
namespace Ev
open Go
variable {D : Keep}

section
variable {P : Program} {r : Ren} {w : World} {T : Tab} (hT : TabOk T P)

theorem nextOp_ok {m m' : AMem} (hm : MemRel r m.next m.get w) {x : AVal} {x' : Value} {s : Bool} {ty : TypeId} {v : AVal} (hx : VRel r x x') (h : nextOp m x s = .val v m') :
    ∃ v' w', (Instr.next x' s ty).run P w = .ok v' w' ∧ VRel r v v' ∧ Step r m.next m.get w r m'.next m'.get w' := by
  unfold nextOp at h
  split at h
  · rename_i b
    obtain ⟨B, hB, rfl⟩ := hx.ptr_inv
    split at h
    · rename_i str pos hg
      obtain ⟨B', hB', z0, s', q1, q2⟩ := hm.blk _ _ hg
      rw [hB] at hB'
      cases hB'
      have hs' : (⟨str.toArray⟩ : ByteArray) = s' := by
        apply WideShapes.bytes_inj
        rw [q2]
      have hsz : str.length = s'.size := by rw [← q2, data_size]
      split at h
      · rename_i hl
        have hl' : pos < str.length := Nat.le_of_ble_eq_true hl
        cases h
        have hlt := hm.inw b B hB
        refine ⟨.tuple #[.bool true, goInt pos, .int .i32 (Utf8.decode s' pos).1], { w with heap := w.heap.setIfInBounds B.cb (.stringIter s' (pos + (Utf8.decode s' pos).2)) }, ?_, ?_, ?_⟩
        · simp only [Instr.next, z0, Nat.add_zero, Sem.run_bind, run_getIter q1, Result.andThen_ok]
          rw [if_pos (by omega)]
          simp only [Sem.run_bind, run_setIter q1, Result.andThen_ok, Sem.run_pure]
        · rw [hs']
          exact .tupleOf (.cons (.bool _) (.cons (.int _ _) (.cons (.int _ _) (.nil r))))
        · rw [AMem.get_set, hs']
          refine step_upd hm hg rfl hB ⟨z0, s', ?_, q2⟩ (fun e vs ro frz h => by cases h) (by simp) rfl rfl rfl (fun cb hne => ?_)
          · simp [hlt]
          · simp [hne.symm]
      · rename_i hl
        cases h
        have hl' : ¬ pos < str.length := fun c => by
          have := Nat.ble_eq_true_of_le (show pos + 1 ≤ str.length from c)
          exact absurd hl (by rw [show Nat.blt pos str.length = true from this]; exact Bool.noConfusion)
        refine ⟨.tuple #[.bool false], w, ?_, .tupleOf (.cons (.bool _) (.nil r)), .refl hm⟩
        simp only [Instr.next, z0, Nat.add_zero, Sem.run_bind, run_getIter q1, Result.andThen_ok]
        rw [if_neg (by omega)]
        rfl
    · cases h
  · rename_i b
    obtain ⟨B, hB, rfl⟩ := hx.ptr_inv
    split at h
    · rename_i since seen last hg
      cases h
      obtain ⟨B', hB', z0, m2, q1, q2⟩ := hm.blk _ _ hg
      rw [hB] at hB'
      cases hB'
      subst q2
      refine ⟨.tuple #[.bool false], w, ?_, .tupleOf (.cons (.bool _) (.nil r)), .refl hm⟩
      simp only [Instr.next, z0, Nat.add_zero, Sem.run_bind, run_getMiter q1, Result.andThen_ok]
      rfl
    · rename_i mb since seen last hg
      obtain ⟨B', hB', z0, m2, q1, Bm, q2, q3⟩ := hm.blk _ _ hg
      rw [hB] at hB'
      cases hB'
      subst q3
      split at h
      · rename_i bs ck hgm
        cases h
        obtain ⟨Bm', hBm', es', p1, p2, _⟩ := hm.blk _ _ hgm
        rw [q2] at hBm'
        cases hBm'
        have he : es' = #[] := by
          have := p2.1
          simp at this
          exact this
        subst he
        refine ⟨.tuple #[.bool false], w, ?_, .tupleOf (.cons (.bool _) (.nil r)), .refl hm⟩
        have f0 : ∀ q : MapEntry → Bool, Array.filter q (#[] : Array MapEntry) = #[] := fun q => rfl
        simp only [Instr.next, z0, Nat.add_zero, Sem.run_bind, run_getMiter q1, run_getMap p1, Result.andThen_ok]
        simp only [f0]
        simp [choose, Sem.run, Question.forced]
      · rename_i k u bn ck hgm
        obtain ⟨Bm', hBm', es', p1, p2, p3, p4⟩ := hm.blk _ _ hgm
        rw [q2] at hBm'
        cases hBm'
        obtain ⟨e', he⟩ : ∃ e', es' = #[e'] := by
          have hl := p2.1
          simp at hl
          obtain ⟨l⟩ := es'
          match l, hl with
          | [e'], _ => exact ⟨e', rfl⟩
        subst he
        have hb : e'.born = bn := by simpa using p4
        have hk := p2.2 0 (k, u) e' rfl rfl
        split at h
        · split at h
          · rename_i hlt
            cases h
            have hlt' : e'.born < since := by rw [hb]; exact Nat.le_of_ble_eq_true hlt
            have hne : ¬ since ≤ e'.born := by omega
            have hin := hm.inw b B hB
            refine ⟨.tuple #[.bool true, e'.key, e'.val], { w with heap := w.heap.setIfInBounds B.cb (.mapIter (some Bm.cb) since #[e'.born] ck) }, ?_, .tupleOf (.cons (.bool _) (.cons hk.1 (.cons hk.2 (.nil r)))), ?_⟩
            · simp only [Instr.next, z0, Nat.add_zero, Sem.run_bind, run_getMiter q1, run_getMap p1, Result.andThen_ok]
              simp [choose, Sem.run, Question.forced, hlt', hne, setObj, q1]
            · rw [AMem.get_set, ← hb]
              refine step_upd hm hg rfl hB ⟨z0, some Bm.cb, ?_, Bm, q2, rfl⟩ (fun e vs ro frz h => by cases h) (by simp) rfl rfl rfl (fun cb hne => ?_)
              · simp [hin]
              · simp [hne.symm]
          · cases h
        · rename_i sn
          split at h
          · rename_i hc
            cases h
            simp only [Bool.and_eq_true] at hc
            have h1 : sn = bn := Nat.eq_of_beq_eq_true hc.1
            have h2 : bn < last := Nat.le_of_ble_eq_true hc.2
            have h3 : ¬ last ≤ e'.born := by omega
            refine ⟨.tuple #[.bool false], w, ?_, .tupleOf (.cons (.bool _) (.nil r)), .refl hm⟩
            simp only [Instr.next, z0, Nat.add_zero, Sem.run_bind, run_getMiter q1, run_getMap p1, Result.andThen_ok]
            simp [choose, Sem.run, Question.forced, h1, hb, h2]
          · cases h
        · cases h
      · cases h
    · cases h
  · cases h

include hT in
theorem rangeMap_ok {m m' : AMem} (hm : MemRel r m.next m.get w) {x : AVal} {x' : Value} {t : TypeId} {v : AVal} (hx : VRel r x x') (h : rangeMap T m t x = .val v m') :
    ∃ v' w' r', (Instr.range t x').run P w = .ok v' w' ∧ VRel r' v v' ∧ Step r m.next m.get w r' m'.next m'.get w' := by
  obtain ⟨hn1, hn2⟩ := hm.none_at (Nat.le_refl m.next)
  unfold rangeMap at h
  split at h
  · rename_i kt et hd
    split at h
    · cases h
      rw [hx.nmap_inv]
      have hmade : Made r m.next w (.miter none 0 [] 0) (.ptr m.next 0) (.pointer (some ⟨w.heap.size, 0, none⟩)) { w with heap := w.heap.push (.mapIter none 0 #[] 0) } ⟨w.heap.size, 0, 0⟩ :=
        ⟨rfl, ⟨_, rfl⟩, rfl, rfl, rfl, ⟨rfl, none, by simp, rfl⟩, ptr_new, fun e vs ro frz h => by cases h⟩
      have hst := hmade.new hm hn2
      rw [← AMem.get_new] at hst
      exact ⟨_, _, _, by simp [Instr.range, run_und hT hd], hmade.val, hst⟩
    · rename_i b
      obtain ⟨B, hB, rfl⟩ := hx.map_inv
      split at h
      · rename_i es bs ck hg
        cases h
        obtain ⟨B', hB', es', p1, _⟩ := hm.blk _ _ hg
        rw [hB] at hB'
        cases hB'
        have hmade : Made r m.next w (.miter (some b) ck [] ck) (.ptr m.next 0) (.pointer (some ⟨w.heap.size, 0, none⟩)) { w with heap := w.heap.push (.mapIter (some B.cb) ck #[] ck) } ⟨w.heap.size, 0, 0⟩ :=
          ⟨rfl, ⟨_, rfl⟩, rfl, rfl, rfl, ⟨rfl, some B.cb, by simp, B, Ren.ext_le hn1 _ _ hB, rfl⟩, ptr_new, fun e vs ro frz h => by cases h⟩
        have hst := hmade.new hm hn2
        rw [← AMem.get_new] at hst
        exact ⟨_, _, _, by simp [Instr.range, run_und hT hd, run_getMap p1], hmade.val, hst⟩
      · cases h
    · cases h
  · cases h

include hT in
theorem clearOp_ok {m m' : AMem} (hm : MemRel r m.next m.get w) {ts : Array TypeId} {ty : TypeId} {args : List AVal} {args' : Array Value} {v : AVal} (ha : VsRel r args args'.toList)
    (h : clearOp T m ts args = .val v m') : ∃ v' w', (Builtin.clear_ ts ty args').run P w = .ok v' w' ∧ VRel r v v' ∧ Step r m.next m.get w r m'.next m'.get w' := by
  unfold clearOp at h
  split at h
  · rename_i x st hst
    obtain ⟨x', t1, e1, hx, ht1⟩ := ha.cons_inv
    have h0 : args'[0]? = some x' := by rw [← Array.getElem?_toList, e1]; rfl
    split at h
    · rename_i e hd
      split at h
      · cases h
        refine ⟨.tuple #[], w, ?_, .tupleOf (.nil r), .refl hm⟩
        rw [hx.nslice_inv] at h0
        simp only [Builtin.clear_, hst, h0, Sem.run_bind, run_und hT hd, Result.andThen_ok]
        rfl
      · rename_i b o len esz cap
        obtain ⟨B, ad, c, hB, rfl, hc, hl, hr⟩ := hx.slice_inv
        split at h
        · cases h
          refine ⟨.tuple #[], w, ?_, .tupleOf (.nil r), .refl hm⟩
          simp only [Builtin.clear_, hst, h0, Sem.run_bind, run_und hT hd, Result.andThen_ok]
          rfl
        · rename_i n
          split at h
          · rename_i i z eb vs frz wh hi hz hgb
            split at h
            · rename_i hcond
              cases h
              simp only [Bool.and_eq_true] at hcond
              obtain ⟨⟨⟨⟨⟨c1, c2⟩, c3⟩, c4⟩, c5⟩, c6⟩ := hcond
              have c1 := Nat.eq_of_beq_eq_true c1
              have c2 := Nat.eq_of_beq_eq_true c2
              have c5 := Nat.le_of_ble_eq_true c5
              have c6 := Nat.le_of_ble_eq_true c6
              obtain ⟨z', ez, hzz⟩ := run_zero hT hz w
              have hzr : VRel r z z' := by rw [hzz]; exact absV_rel r z'
              have hzc := hzr.fine_cells c3
              have hzs : z'.cells.size = z.cells.length := by have := hzc.len; simpa using this
              have hrep := repeat_rel hzc (n + 1) ((n + 1) * z.cells.length) rfl
              have hrep2 : VsRel r (repeatCells z.cells (n + 1)) (Builtin.zeroCells z'.cells (n + 1)).toList := by
                unfold Builtin.zeroCells
                rw [hzs] at hrep ⊢
                exact hrep
              have hone : (repeatCells z.cells (n + 1)).all AVal.one = true := by
                generalize n + 1 = q
                induction q with
                | zero => rfl
                | succ q ih => simp only [repeatCells, List.all_append, Bool.and_eq_true]; exact ⟨c4, ih⟩
              have hlen : (repeatCells z.cells (n + 1)).length = (n + 1) * esz := by rw [repeatCells_length, c2, c1]
              have hr2 := hr.resolve_left (by omega)
              obtain ⟨ha2, hroom⟩ := hr2
              have hroom2 : B.base + o + (repeatCells z.cells (n + 1)).length ≤ B.size := by
                rw [hlen]
                have : (n + 1) * esz ≤ c * esz := Nat.mul_le_mul_right _ hl
                omega
              obtain ⟨w', e2, hst2⟩ := write_row (P := P) hm hgb hB hrep2 hone c5 (by omega) hroom2
              refine ⟨.tuple #[], w', ?_, .tupleOf (.nil r), ?_⟩
              · rw [ha2] at h0
                simp only [Builtin.clear_, hst, h0, Sem.run_bind, run_und hT hd, Result.andThen_ok, ez, e2]
                rfl
              · rw [AMem.get_set]
                exact hst2
            · cases h
          · cases h
      · cases h
    · cases h
  · cases h

theorem lenOfA_ok {x : AVal} {x' : Value} {n : Nat} (hx : VRel r x x') (h : lenOfA x = some n) : (Builtin.lenOf x').run P w = .ok n w := by
  unfold lenOfA at h
  split at h
  · cases h; rw [hx.nslice_inv]; rfl
  · cases h; obtain ⟨B, a, c, hB, rfl, _⟩ := hx.slice_inv; rfl
  · cases h; obtain ⟨s', rfl, es⟩ := hx.str_inv; rw [← es, data_size]; rfl
  · cases h

theorem firstOf_ok {m : AMem} (hm : MemRel r m.next m.get w) {x : AVal} {x' : Value} {n k : Nat} {cs : List AVal} (hx : VRel r x x') (h : firstOf m n k x = some cs) :
    cs.length = k * n ∧ ∃ vs : List Value, VsRel r cs vs ∧ (Builtin.firstCells n k x').run P w = .ok vs.toArray w := by
  unfold firstOf at h
  split at h
  · rw [hx.nslice_inv]
    split at h
    · cases h; exact ⟨by simp, [], .nil r, rfl⟩
    · cases h
  · rename_i b o len e cap
    obtain ⟨B, a, c, hB, rfl, hc, hl, hr⟩ := hx.slice_inv
    split at h
    · rename_i hb
      rw [Bool.and_eq_true] at hb
      have he : e = n := Nat.eq_of_beq_eq_true hb.1
      subst he
      have hk := Nat.le_of_ble_eq_true hb.2
      obtain ⟨vs, v1, v2, v3⟩ := sliceRow_ok (P := P) (k := k * e) hm hB (hr.imp id (·.1)) (fun h0 => Nat.mul_eq_zero.2 (.inl (by omega))) rfl h
      exact ⟨v2, vs, v1, v3 w rfl⟩
    · cases h
  · rename_i s
    obtain ⟨s', rfl, es⟩ := hx.str_inv
    split at h
    · split at h
      · rename_i hb
        have hb := Nat.le_of_ble_eq_true hb
        cases h
        refine ⟨by simp; omega, (s.take k).map fun b => Value.int .u8 b.toNat, ?_, ?_⟩
        · refine ⟨by simp, fun i v v' a b => ?_⟩
          rw [List.getElem?_map] at a b
          cases hs : (s.take k)[i]? with
          | none => rw [hs] at a; cases a
          | some c => rw [hs] at a b; cases a; cases b; exact .int _ _
        · simp only [Builtin.firstCells, Sem.run_pure]
          congr 1
          apply Array.toList_inj.1
          rw [Array.toList_map, Lib.extract_data, List.drop_zero, Nat.sub_zero, es]
      · cases h
    · cases h
  · cases h

include hT in
theorem copyOp_ok {m m' : AMem} (hm : MemRel r m.next m.get w) {ts : Array TypeId} {ty : TypeId} {args : List AVal} {args' : Array Value} {v : AVal} (ha : VsRel r args args'.toList)
    (h : copyOp T m ts args = .val v m') : ∃ v' w', (Builtin.copy_ ts ty args').run P w = .ok v' w' ∧ VRel r v v' ∧ Step r m.next m.get w r m'.next m'.get w' := by
  unfold copyOp at h
  split at h
  · rename_i d x dt h0
    obtain ⟨d', rest, es, hd', ha2⟩ := ha.cons_inv
    obtain ⟨x', rest2, ex, hx, ha3⟩ := ha2.cons_inv
    rw [ha3.nil_inv] at ex
    rw [ex] at es
    have a0 : args'[0]? = some d' := by rw [← Array.getElem?_toList, es]; rfl
    have a1 : args'[1]? = some x' := by rw [← Array.getElem?_toList, es]; rfl
    split at h
    · rename_i e hd
      split at h
      · rename_i n xl b o len esz cap hn hxl
        obtain ⟨B, a, c, hB, rfl, hc, hl, hr⟩ := hd'.slice_inv
        split at h
        · rename_i cs he hfo
          have he : esz = n := Nat.eq_of_beq_eq_true he
          subst he
          obtain ⟨f1, vs, f2, f3⟩ := firstOf_ok (P := P) hm hx hfo
          have hlen := lenOfA_ok (P := P) (w := w) hx hxl
          have key : ∀ w', (storeCells a vs).run P w = .ok () w' → (Builtin.copy_ ts ty args').run P w = .ok (goInt (min xl len : Nat)) w' := by
            intro w' hst
            have f3' : (Builtin.firstCells esz (Nat.min xl len) x').run P w = .ok vs.toArray w := f3
            simp [Builtin.copy_, h0, a0, a1, run_und hT hd, hlen, run_size hT hn, f3', hst]
          split at h
          · cases h
            have := f2.nil_inv
            subst this
            refine ⟨_, w, key w rfl, .int _ _, .refl hm⟩
          · rename_i c0 cs0
            split at h
            · rename_i eb vs0 frz wh hg
              split at h
              · rename_i hb
                cases h
                simp only [Bool.and_eq_true] at hb
                obtain ⟨⟨b1, b2⟩, b3⟩ := hb
                have b2 := Nat.le_of_ble_eq_true b2
                have b3 := Nat.le_of_ble_eq_true b3
                have hk : min xl len ≠ 0 := by intro e; rw [e, Nat.zero_mul] at f1; simp at f1
                rcases hr with hr | ⟨ha', hroom⟩
                · omega
                · obtain ⟨B', hB', c1, fr, q1, q2, q3, q4, q5⟩ := hm.blk _ _ hg
                  rw [hB] at hB'
                  cases hB'
                  obtain ⟨w', e2, e3⟩ := write_row (P := P) hm hg hB f2 b1 b2 (by omega) (by omega)
                  rw [← ha'] at e2
                  exact ⟨_, w', key w' e2, .int _ _, by rw [AMem.get_set]; exact e3⟩
              · cases h
            · cases h
        · cases h
      · cases h
    · cases h
  · cases h

theorem bytesOf_int : ∀ {cs : List AVal} {l : List UInt8} {j : Nat} {v : AVal}, bytesOf cs = some l → cs[j]? = some v → ∃ y, v = .int .u8 y := by
  intro cs
  induction cs with
  | nil => intro l j v _ h; simp at h
  | cons c cs ih =>
    intro l j v e h
    unfold bytesOf at e
    split at e
    · cases ‹_ :: _ = []›
    · rename_i n rest heq
      cases heq
      split at e
      · rename_i l' hl
        cases j with
        | zero => simp at h; exact ⟨n, h.symm⟩
        | succ j => exact ih hl (by simpa using h)
      · cases e
    · cases e

theorem liesAt_row {e : TypeId} (hc : P.cellsOf e = 1) (count o n : Nat) (hn : o + n ≤ count) : liesAt P P.depth e count o e n = true := by
  have hd : P.depth = (2 * (P.types.size + Made.depth) + 1) + 1 := rfl
  rw [hd]
  simp only [liesAt, Bool.or_eq_true]
  left
  rw [hd]
  simp [rowAt, hc, hn, sameLayout, Nat.mod_one]

theorem run_loadBytes_cells : ∀ (ns : List Int) (a : Addr) (acc : ByteArray), (∀ (j : Nat) x, ns[j]? = some x → w.cell? (a.add j) = some (.int .u8 x)) →
    ∃ s, (loadBytes a acc ns.length).run P w = .ok s w ∧ s.data.toList = acc.data.toList ++ ns.map fun n => UInt8.ofNat n.toNat := by
  intro ns
  induction ns with
  | nil => intro a acc h; exact ⟨acc, rfl, by simp⟩
  | cons n ns ih =>
    intro a acc h
    have h0 : w.cell? a = some (.int .u8 n) := by
      have := h 0 n rfl
      simpa [Addr.add] using this
    obtain ⟨s, h1, h2⟩ := ih (a.add 1) (acc.push n.toNat.toUInt8) (fun j y hy => by
      have := h (j + 1) y (by simpa using hy)
      have e : (a.add 1).add j = a.add (j + 1) := by
        unfold Addr.add
        by_cases hj : j = 0
        · subst hj; simp
        · simp [hj]; omega
      rw [e]; exact this)
    refine ⟨s, ?_, ?_⟩
    · simp only [List.length_cons, loadBytes, Sem.run_bind, run_load, h0, Result.andThen_ok]
      exact h1
    · rw [h2]; simp [ByteArray.push]

theorem unsafeString_none (pt it ty : TypeId) (k : IntKind) (z : Int) : Builtin.unsafeString_ #[pt, it] ty #[.pointer none, .int k z] =
    (do
      let n ← asInt (.int k z)
      if n < 0 then runtimePanic (.error "unsafe.String: len out of range")
      if n > IntKind.i64.max then unsupported (.unsafePointer "String: a length above the largest int")
      if n = 0 then pure (.string .empty)
      else runtimePanic (.error "unsafe.String: ptr is nil and len is not zero")) := rfl

theorem unsafeString_some (pt it ty : TypeId) (a : Addr) (k : IntKind) (z : Int) : Builtin.unsafeString_ #[pt, it] ty #[.pointer (some a), .int k z] =
    (do
      let n ← asInt (.int k z)
      if n < 0 then runtimePanic (.error "unsafe.String: len out of range")
      if n > IntKind.i64.max then unsupported (.unsafePointer "String: a length above the largest int")
      if n = 0 then pure (.string .empty)
      else if ← variablesAt a (← elemOf pt) n.toNat then do
        let s ← loadBytes a .empty n.toNat
        freeze a n.toNat
        pure (.string s)
      else unsupported (.unsafePointer "String: not so many bytes at ptr")) := rfl

theorem freeze_heap (w : World) (a : Addr) (n : Nat) (h : n ≠ 0) {c : Array Value} {e : TypeId} {fr : Nat × Nat} (hc : w.heap[a.block]? = some (.cells c e fr)) :
    (∃ fr', (w.freeze a n).heap[a.block]? = some (.cells c e fr')) ∧ (∀ j, j ≠ a.block → (w.freeze a n).heap[j]? = w.heap[j]?) ∧ (w.freeze a n).heap.size = w.heap.size ∧
      (w.freeze a n).os = w.os ∧ (w.freeze a n).tape = w.tape ∧ (w.freeze a n).output = w.output := by
  unfold World.freeze
  rw [if_neg h]
  refine ⟨?_, ?_, by simp, rfl, rfl, rfl⟩
  · simp only [Array.getElem?_modify, if_pos, hc, Option.map_some]
    exact ⟨_, rfl⟩
  · intro j hj
    simp only [Array.getElem?_modify]
    rw [if_neg (fun e => hj e.symm)]

include hT in
theorem unsafeStringOp_ok {m m' : AMem} (hm : MemRel r m.next m.get w) {ts : Array TypeId} {ty : TypeId} {args : List AVal} {args' : Array Value} {v : AVal} (ha : VsRel r args args'.toList)
    (h : unsafeStringOp T m ts args = .val v m') : ∃ v' w', (Builtin.unsafeString_ ts ty args').run P w = .ok v' w' ∧ VRel r v v' ∧ Step r m.next m.get w r m'.next m'.get w' := by
  have hmax : IntKind.i64.max = 9223372036854775807 := rfl
  unfold unsafeStringOp at h
  split at h
  · rename_i pt it k n hts
    obtain ⟨p', rest, es, hp, ha2⟩ := ha.cons_inv
    obtain ⟨n', rest2, en, hn, ha3⟩ := ha2.cons_inv
    rw [ha3.nil_inv] at en
    rw [en, hn.int_inv, hp.nptr_inv] at es
    have e1 : args' = #[.pointer none, .int k n] := Array.toList_inj.1 es
    have e2 : ts = #[pt, it] := Array.toList_inj.1 hts
    subst e1; subst e2
    by_cases c : n = 0
    · rw [if_pos c] at h
      cases h
      subst c
      refine ⟨.string .empty, w, ?_, .str _ _ rfl, .refl hm⟩
      rw [unsafeString_none]
      simp [asInt, asIntOf, hmax]
    · rw [if_neg c] at h; cases h
  · rename_i pt it b o k n hts
    obtain ⟨p', rest, es, hp, ha2⟩ := ha.cons_inv
    obtain ⟨n', rest2, en, hn, ha3⟩ := ha2.cons_inv
    obtain ⟨B, hB, ep⟩ := hp.ptr_inv
    rw [ha3.nil_inv] at en
    rw [en, hn.int_inv, ep] at es
    have e1 : args' = #[.pointer (some ⟨B.cb, B.base + o, none⟩), .int k n] := Array.toList_inj.1 es
    have e2 : ts = #[pt, it] := Array.toList_inj.1 hts
    subst e1; subst e2
    by_cases c : n = 0
    · rw [if_pos c] at h
      cases h
      subst c
      refine ⟨.string .empty, w, ?_, .str _ _ rfl, .refl hm⟩
      rw [unsafeString_some]
      simp [asInt, asIntOf, hmax]
    · rw [if_neg c] at h
      by_cases c2 : n < 0 ∨ n > 9223372036854775807
      · rw [if_pos c2] at h; cases h
      · rw [if_neg c2] at h
        split at h
        · rename_i e vs frz wh hg
          split at h
          · rename_i u hpt hsz
            split at h
            · rename_i cs heu hrow
              have heu : e = u := Nat.eq_of_beq_eq_true heu
              subst heu
              split at h
              · rename_i l hl
                cases h
                obtain ⟨B', hB', cc, fr, q1, q2, q3, q4, q5⟩ := hm.blk _ _ hg
                rw [hB] at hB'
                cases hB'
                obtain ⟨vs', v1, v2, v3⟩ := row_ok (P := P) hm hB hrow
                obtain ⟨ns, n1, n2⟩ := bytesOf_ok v1 hl
                have hlen : ns.length = n.toNat := by have := v1.len; rw [n1] at this; simp at this; omega
                have hsh := shape_of q1
                have hco : P.cellsOf e = 1 := by
                  obtain ⟨i, hi, h2⟩ := hT.size hsz
                  simp [Program.cellsOf, hi, h2]
                -- the cells
                have hro : o + n.toNat ≤ vs.length ∧ cs = (vs.drop o).take n.toNat := by
                  unfold rowOf at hrow
                  rw [hg] at hrow
                  simp only at hrow
                  split at hrow
                  · rename_i hb; cases hrow; exact ⟨Nat.le_of_ble_eq_true hb, rfl⟩
                  · cases hrow
                have hcell : ∀ (j : Nat) x, ns[j]? = some x → w.cell? ((⟨B.cb, B.base + o, none⟩ : Addr).add j) = some (.int .u8 x) := by
                  intro j x hj
                  rw [Addr_add, cell_of q1]
                  have hjl : j < ns.length := by
                    rcases Nat.lt_or_ge j ns.length with z | z
                    · exact z
                    · rw [List.getElem?_eq_none z] at hj; cases hj
                  have hv : vs[o + j]? = some (vs[o + j]'(by omega)) := List.getElem?_eq_getElem _
                  obtain ⟨x', g1, g2⟩ := q4.get hv
                  rw [List.getElem?_take, if_pos (by omega), List.getElem?_drop] at g1
                  have hcs : cs[j]? = some (vs[o + j]'(by omega)) :=
                    (congrArg (fun z => z[j]?) hro.2).trans (by rw [List.getElem?_take, if_pos (by omega), List.getElem?_drop, hv])
                  have hint : ∃ y, vs[o + j]'(by omega) = .int .u8 y := bytesOf_int hl hcs
                  obtain ⟨y, hy⟩ := hint
                  have := v1.at_ j _ (.int .u8 x) hcs (by rw [n1, List.getElem?_map, hj]; rfl)
                  rw [hy] at this g2
                  have e3 := this.int_inv
                  rw [g2.int_inv] at g1
                  rw [← Array.getElem?_toList, Nat.add_assoc, g1]
                  rw [e3]
                obtain ⟨s, s1, s2⟩ := run_loadBytes_cells (P := P) ns ⟨B.cb, B.base + o, none⟩ .empty hcell
                rw [hlen] at s1
                have hlies := liesAt_row (P := P) hco (cc.size / P.cellsOf e) (B.base + o) n.toNat (by rw [hco, Nat.div_one]; omega)
                have hnz : n.toNat ≠ 0 := by omega
                obtain ⟨⟨fr', f1⟩, f2, f3, f4, f5, f6⟩ := freeze_heap w ⟨B.cb, B.base + o, none⟩ n.toNat hnz q1
                refine ⟨.string s, w.freeze ⟨B.cb, B.base + o, none⟩ n.toNat, ?_, .str _ _ (by rw [s2, n2]; rfl), ?_⟩
                · rw [unsafeString_some]
                  have c3 : ¬ n < 0 := by omega
                  have c4 : ¬ (9223372036854775807 : Int) < n := by omega
                  simp [asInt, asIntOf, hmax, c3, c4, c, variablesAt, hsh, elemOf, run_und hT hpt, hlies, s1]
                · rw [AMem.get_set]
                  refine step_upd hm hg rfl hB ⟨cc, fr', f1, q2, q3, q4, fun h => Bool.noConfusion h⟩ ?_ f3 f4 f5 f6 f2
                  intro e2 vs2 ro2 frz2 h
                  cases h
                  exact hm.whole b B _ _ _ _ hg hB
              · cases h
            · cases h
          · cases h
        · cases h
  · cases h

/-- What a writing operation that calls nothing gives: a value, or nothing (then the temporary is undefined). -/
def GivesW (P : Program) (a : Act) (o : Oper) (w : World) (r : Ren) (m : AMem) (v : AVal) (m' : AMem) : Prop :=
  ∃ nx v' w' r', (execOp a.eval o).run P w = .ok nx w' ∧ (nx = .value v' ∨ nx = .skip ∧ v' = undef) ∧ VRel r' v v' ∧ Step r m.next m.get w r' m'.next m'.get w'

include hT in
/-- THE WRITING OPERATIONS. -/
theorem evW_ok {m m' : AMem} {n : Nat} {t : Tree AVal} {a : Act} {o : Oper} {v : AVal} (hg : GlobOk T r) (ht : TRel D r t n a) (hm : MemRel r m.next m.get w) (h : evW T t m o.op = .val v m') :
    GivesW P a o w r m v m' := by
  have E := fun x => ev_rel (T := T) hg ht x
  have L := fun xs => evList_rel (T := T) hg ht xs
  cases ho : o.op with
  | store u x y =>
    rw [ho] at h
    obtain ⟨rfl, w', e, hs⟩ := storeOp_ok hT hm (E x) (E y) h
    exact ⟨.skip, undef, w', r, by simp only [execOp, ho]; simp [e], .inr ⟨rfl, rfl⟩, .any _, hs⟩
  | mapUpdate mt x k y =>
    rw [ho] at h
    obtain ⟨rfl, w', e, hs⟩ := mapUpdateOp_ok hT hm (E x) (E k) (E y) h
    exact ⟨.skip, undef, w', r, by simp only [execOp, ho]; simp [e], .inr ⟨rfl, rfl⟩, .any _, hs⟩
  | insert mt x k y =>
    rw [ho] at h
    obtain ⟨rfl, w', e, hs⟩ := mapUpdateOp_ok hT hm (E x) (E k) (E y) h
    exact ⟨.skip, undef, w', r, by simp only [execOp, ho]; simp [e], .inr ⟨rfl, rfl⟩, .any _, hs⟩
  | next it s =>
    rw [ho] at h
    obtain ⟨v', w', e, hv, hs⟩ := nextOp_ok (P := P) hm (ty := o.type) (E it) h
    exact ⟨.value v', v', w', r, by simp only [execOp, ho]; simp [e], .inl rfl, hv, hs⟩
  | range xt x =>
    rw [ho] at h
    obtain ⟨v', w', r', e, hv, hs⟩ := rangeMap_ok hT hm (E x) h
    exact ⟨.value v', v', w', r', by simp only [execOp, ho]; simp [e], .inl rfl, hv, hs⟩
  | panic x =>
    rw [ho] at h
    simp only [evW] at h
    split at h <;> cases h
  | call c =>
    rw [ho] at h
    simp only [evW] at h
    split at h
    · split at h <;> cases h
    · rename_i hc
      obtain ⟨cs, e0⟩ := exec_builtin (a := a) ho hc
      obtain ⟨v', w', r', e, hv, hs⟩ := appendOp_ok hT hm (ty := o.type) (L c.args) h
      exact ⟨.value v', v', w', r', by rw [e0]; simp [builtin, e], .inl rfl, hv, hs⟩
    · rename_i hc
      obtain ⟨cs, e0⟩ := exec_builtin (a := a) ho hc
      obtain ⟨v', w', e, hv, hs⟩ := copyOp_ok hT hm (ty := o.type) (L c.args) h
      exact ⟨.value v', v', w', r, by rw [e0]; simp [builtin, e], .inl rfl, hv, hs⟩
    · rename_i hc
      obtain ⟨cs, e0⟩ := exec_builtin (a := a) ho hc
      obtain ⟨v', w', e, hv, hs⟩ := clearOp_ok hT hm (ty := o.type) (L c.args) h
      exact ⟨.value v', v', w', r, by rw [e0]; simp [builtin, e], .inl rfl, hv, hs⟩
    · rename_i hc
      obtain ⟨cs, e0⟩ := exec_builtin (a := a) ho hc
      obtain ⟨v', w', e, hv, hs⟩ := unsafeStringOp_ok hT hm (ty := o.type) (L c.args) h
      exact ⟨.value v', v', w', r, by rw [e0]; simp [builtin, e], .inl rfl, hv, hs⟩
    · cases h
  | _ => rw [ho] at h; cases h

/-- A panic of the program's own. -/
theorem evW_pan {m : AMem} {n : Nat} {t : Tree AVal} {a : Act} {o : Oper} {v : AVal} (hg : GlobOk T r) (ht : TRel D r t n a) (h : evW T t m o.op = .pan v) :
    ∃ v', (execOp a.eval o).run P w = .halt (.panic v') w ∧ VRel r v v' := by
  have E := fun x => ev_rel (T := T) hg ht x
  cases ho : o.op with
  | panic x =>
    rw [ho] at h
    simp only [evW] at h
    split at h
    · rename_i u y hx
      cases h
      have hx2 := E x
      rw [hx] at hx2
      obtain ⟨y', e, hy⟩ := hx2.iface_inv
      exact ⟨.iface u y', by simp only [execOp, ho]; simp [Instr.panic, e], .iface _ _ _ hy⟩
    · cases h
  | store u x y =>
    rw [ho] at h
    simp only [evW, storeOp] at h
    repeat' split at h
    all_goals cases h
  | mapUpdate mt x k y =>
    rw [ho] at h
    simp only [evW, mapUpdateOp] at h
    repeat' split at h
    all_goals cases h
  | insert mt x k y =>
    rw [ho] at h
    simp only [evW, mapUpdateOp] at h
    repeat' split at h
    all_goals cases h
  | next it s =>
    rw [ho] at h
    simp only [evW, nextOp] at h
    repeat' split at h
    all_goals cases h
  | range xt x =>
    rw [ho] at h
    simp only [evW, rangeMap] at h
    repeat' split at h
    all_goals cases h
  | call c =>
    rw [ho] at h
    simp only [evW] at h
    split at h
    · split at h <;> cases h
    · simp only [appendOp] at h
      repeat' split at h
      all_goals cases h
    · simp only [copyOp] at h
      repeat' split at h
      all_goals cases h
    · simp only [clearOp] at h
      repeat' split at h
      all_goals cases h
    · simp only [unsafeStringOp] at h
      repeat' split at h
      all_goals cases h
    · cases h
  | _ => rw [ho] at h; cases h

/-- A call of a function with a body. -/
theorem evW_call {m : AMem} {n : Nat} {t : Tree AVal} {a : Act} {o : Oper} {f : FuncId} {args : List AVal} (hg : GlobOk T r) (ht : TRel D r t n a) (h : evW T t m o.op = .call f args) :
    ∃ args' : Array Value, VsRel r args args'.toList ∧ execOp a.eval o = callFunc f args' := by
  have E := fun x => ev_rel (T := T) hg ht x
  have L := fun xs => evList_rel (T := T) hg ht xs
  cases ho : o.op with
  | call c =>
    rw [ho] at h
    simp only [evW] at h
    split at h
    · rename_i fo hc
      split at h
      · rename_i g first captured hf
        cases h
        have hf2 := E fo
        rw [hf] at hf2
        obtain ⟨f', c', e, h1, h2⟩ := hf2.func_inv
        refine ⟨f' ++ c.args.map a.eval ++ c', ?_, ?_⟩
        · rw [Array.toList_append, Array.toList_append]
          exact (h1.append (L c.args)).append h2
        · simp only [execOp, ho, resolve, hc, Deferred.ofValue, e]
          rfl
      · cases h
    · simp only [appendOp] at h
      repeat' split at h
      all_goals cases h
    · simp only [copyOp] at h
      repeat' split at h
      all_goals cases h
    · simp only [clearOp] at h
      repeat' split at h
      all_goals cases h
    · simp only [unsafeStringOp] at h
      repeat' split at h
      all_goals cases h
    · cases h
  | store u x y =>
    rw [ho] at h
    simp only [evW, storeOp] at h
    repeat' split at h
    all_goals cases h
  | mapUpdate mt x k y =>
    rw [ho] at h
    simp only [evW, mapUpdateOp] at h
    repeat' split at h
    all_goals cases h
  | insert mt x k y =>
    rw [ho] at h
    simp only [evW, mapUpdateOp] at h
    repeat' split at h
    all_goals cases h
  | next it s =>
    rw [ho] at h
    simp only [evW, nextOp] at h
    repeat' split at h
    all_goals cases h
  | range xt x =>
    rw [ho] at h
    simp only [evW, rangeMap] at h
    repeat' split at h
    all_goals cases h
  | panic x =>
    rw [ho] at h
    simp only [evW] at h
    split at h <;> cases h
  | _ => rw [ho] at h; cases h
end
end Ev
end Go.Proofs.YtjmapihogpdocaaGreatDoor
