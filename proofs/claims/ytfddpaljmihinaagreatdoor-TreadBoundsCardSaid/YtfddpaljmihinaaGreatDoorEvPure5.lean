/-
  The evaluator's pure operations answer what the machine's do: literals, builtins, and all of them in one theorem. (Conditions: the tables tell of the program what is so; the temporaries are related.)
-/
import Derived.Test.YtfddpaljmihinaaGreatDoorEvPure4
namespace Go.Proofs.YtfddpaljmihinaaGreatDoor
namespace Ev
open Go
variable {D : Keep}

section
variable {T : Tab} {P : Program} (hT : TabOk T P) {r : Ren} (w : World)

/-! Literals -/
theorem foldl_set : ∀ (vs : List Value) (j off : Nat) (cells : Array Value), off + j + vs.length ≤ cells.size →
    (vs.zipIdx j |>.foldl (fun cs (x : Value × Nat) => cs.setIfInBounds (off + x.2) x.1) cells).toList =
      cells.toList.take (off + j) ++ vs ++ cells.toList.drop (off + j + vs.length) := by
  intro vs
  induction vs with
  | nil => intro j off cells h; simp
  | cons v vs ih =>
    intro j off cells h
    simp only [List.zipIdx_cons, List.foldl_cons]
    simp only [List.length_cons] at h
    rw [ih (j + 1) off _ (by simp; omega)]
    simp only [Array.toList_setIfInBounds, List.length_cons]
    have h1 : off + j < cells.toList.length := by simp; omega
    rw [List.take_set, List.drop_set]
    rw [show off + (j + 1) = off + j + 1 from by omega]
    rw [if_pos (by omega)]
    rw [List.take_succ_eq_append_getElem h1]
    have e : (List.take (off + j) cells.toList ++ [cells.toList[off + j]]).set (off + j) v = List.take (off + j) cells.toList ++ [v] := by
      have hl : (List.take (off + j) cells.toList).length = off + j := by simp; omega
      rw [List.set_append, if_neg (by omega), hl]
      simp
    rw [e]
    simp only [List.append_assoc, List.cons_append, List.nil_append]
    rw [show off + j + 1 + vs.length = off + j + (vs.length + 1) from by omega]

theorem fillOp_ok {place : Nat → Option (Nat × Nat)} : ∀ {parts : List (Nat × AVal)} {parts' : List (Nat × Value)} {cs : List AVal} {cs' : Array Value} {out : List AVal},
    VsRel r cs cs'.toList → parts'.map (·.1) = parts.map (·.1) → VsRel r (parts.map (·.2)) (parts'.map (·.2)) → fillOp place cs parts = some out →
    ∃ out' : Array Value, Instr.fill place cs' parts' = some out' ∧ VsRel r out out'.toList := by
  intro parts
  induction parts with
  | nil =>
    intro parts' cs cs' out hc h1 h2 h
    cases parts' with
    | nil => cases h; exact ⟨cs', rfl, hc⟩
    | cons => simp at h1
  | cons p rest ih =>
    intro parts' cs cs' out hc h1 h2 h
    cases parts' with
    | nil => simp at h1
    | cons p' rest' =>
      obtain ⟨i, v⟩ := p
      obtain ⟨i', v'⟩ := p'
      simp only [List.map_cons, List.cons.injEq] at h1
      obtain ⟨hi, h1⟩ := h1
      subst hi
      have hv : VRel r v v' := h2.head
      simp only [fillOp] at h
      split at h
      · cases h
      · rename_i off size hp
        have hne : v ≠ .any ∧ ∀ vs, v ≠ .tuple vs := by
          constructor
          · intro e; subst e; simp at h
          · intro vs e; subst e; simp at h
        have hvc := hv.cells hne.1 hne.2
        have key : (Nat.beq v.cells.length size && Nat.ble (off + v.cells.length) cs.length) = true ∧ fillOp place (over cs off v.cells) rest = some out := by
          split at h
          · cases h
          · cases h
          · split at h
            · rename_i hb; exact ⟨hb, h⟩
            · cases h
        obtain ⟨hb, h⟩ := key
        rw [Bool.and_eq_true] at hb
        have hb1 : v.cells.length = size := Nat.eq_of_beq_eq_true hb.1
        have hb2 := Nat.le_of_ble_eq_true hb.2
        have l1 : v'.cells.size = v.cells.length := by have := hvc.len; simpa using this
        have l2 : cs'.size = cs.length := by have := hc.len; simpa using this
        have e := foldl_set v'.cells.toList 0 off cs' (by simp [l1, l2]; omega)
        have hov : VsRel r (over cs off v.cells) (v'.cells.zipIdx.foldl (fun cs (x : Value × Nat) => cs.setIfInBounds (off + x.2) x.1) cs').toList := by
          have e2 : (v'.cells.zipIdx.foldl (fun cs (x : Value × Nat) => cs.setIfInBounds (off + x.2) x.1) cs') = (v'.cells.toList.zipIdx 0 |>.foldl (fun cs (x : Value × Nat) => cs.setIfInBounds (off + x.2) x.1) cs') := by
            rw [← Array.foldl_toList, Array.toList_zipIdx]
          rw [e2, e]
          exact hc.over hvc off
        obtain ⟨out', ho, hr⟩ := ih hov h1 h2.tail h
        refine ⟨out', ?_, hr⟩
        simp only [Instr.fill, hp]
        rw [if_neg (by simp [l1, l2, hb1]; omega)]
        exact ho

include hT in
theorem places_ok : ∀ {fs : List Field} {ps : List (Nat × Nat)}, placesOf T fs = some ps →
    (fs.mapM (m := Sem) fun f => Prod.mk f.offset <$> sizeOf f.type).run P w = .ok ps w := by
  intro fs
  induction fs with
  | nil => intro ps h; cases h; rfl
  | cons f fs ih =>
    intro ps h
    simp only [placesOf] at h
    split at h
    · rename_i n rest hn hr
      cases h
      simp [List.mapM_cons, run_size hT hn, ih hr]
    · cases h

theorem parts_rel {n : Nat} {t : Tree AVal} {a : Act} (hg : GlobOk T r) (ht : TRel D r t n a) (parts : Array (Nat × Operand)) :
    ((parts.map fun (i, x) => (i, a.eval x)).toList.map (·.1) = (parts.toList.map fun p => (p.1, ev T t p.2)).map (·.1)) ∧
    VsRel r ((parts.toList.map fun p => (p.1, ev T t p.2)).map (·.2)) ((parts.map fun (i, x) => (i, a.eval x)).toList.map (·.2)) := by
  refine ⟨by simp, ⟨by simp, fun i v v' x y => ?_⟩⟩
  simp only [List.map_map, List.getElem?_map, Array.toList_map, Option.map_eq_some_iff] at x y
  obtain ⟨p, hp, rfl⟩ := x
  obtain ⟨p', hp', rfl⟩ := y
  rw [hp] at hp'
  cases hp'
  exact ev_rel hg ht _

include hT in
theorem buildOp_ok {u : TypeId} {parts : List (Nat × AVal)} {parts' : Array (Nat × Value)} {v : AVal}
    (h1 : parts'.toList.map (·.1) = parts.map (·.1)) (h2 : VsRel r (parts.map (·.2)) (parts'.toList.map (·.2))) (h : buildOp T u parts = some v) :
    ∃ v', (Instr.build u parts').run P w = .ok v' w ∧ VRel r v v' := by
  unfold buildOp at h
  split at h
  · rename_i zs fs hz hd
    obtain ⟨z', ez, hzr⟩ := run_zero hT hz w
    have hzrel : VRel r (.agg zs) z' := by rw [hzr]; exact absV_rel r z'
    obtain ⟨zc, rfl, hzc⟩ := hzrel.agg_inv
    split at h
    · rename_i ps hps
      cases hf : fillOp (fun i => ps[i]?) zs parts with
      | none => rw [hf] at h; cases h
      | some out =>
        rw [hf] at h
        cases h
        obtain ⟨out', ho, hr⟩ := fillOp_ok hzc h1 h2 hf
        refine ⟨.agg out', ?_, .aggOf hr⟩
        have hm : (fs.mapM (m := Sem) fun f => Prod.mk f.offset <$> sizeOf f.type).run P w = .ok ps.toArray w := by
          rw [Array.mapM_eq_mapM_toList]
          simp only [Sem.run_map, places_ok hT w hps, Result.andThen_ok]
        simp [Instr.build, ez, run_und hT hd, hm, Value.cells, ho]
    · cases h
  · rename_i zs n e hz hd
    obtain ⟨z', ez, hzr⟩ := run_zero hT hz w
    have hzrel : VRel r (.agg zs) z' := by rw [hzr]; exact absV_rel r z'
    obtain ⟨zc, rfl, hzc⟩ := hzrel.agg_inv
    split at h
    · rename_i k hk
      cases hf : fillOp (fun i => some (i * k, k)) zs parts with
      | none => rw [hf] at h; cases h
      | some out =>
        rw [hf] at h
        cases h
        obtain ⟨out', ho, hr⟩ := fillOp_ok hzc h1 h2 hf
        exact ⟨.agg out', by simp [Instr.build, ez, run_und hT hd, run_size hT hk, Value.cells, ho], .aggOf hr⟩
    · cases h
  · cases h

/-! Builtins that only look at values -/
theorem minInts_ok : ∀ {xs : List AVal} {x : AVal} {x' : Value} {xs' : List Value} {v : AVal}, VRel r x x' → VsRel r xs xs' → minInts x xs = some v →
    ∃ v', (xs'.foldlM Builtin.min2 x').run P w = .ok v' w ∧ VRel r v v' := by
  intro xs
  induction xs with
  | nil => intro x x' xs' v hx hxs h; rw [hxs.nil_inv]; cases h; exact ⟨x', rfl, hx⟩
  | cons y ys ih =>
    intro x x' xs' v hx hxs h
    obtain ⟨y', ys', rfl, hy, hys⟩ := hxs.cons_inv
    simp only [minInts] at h
    split at h
    · rename_i k a k' b
      rw [hx.int_inv, hy.int_inv]
      obtain ⟨v', e, hv⟩ := ih (.int k (if b < a then b else a)) hys h
      exact ⟨v', by simpa [Builtin.min2] using e, hv⟩
    · cases h

theorem maxInts_ok : ∀ {xs : List AVal} {x : AVal} {x' : Value} {xs' : List Value} {v : AVal}, VRel r x x' → VsRel r xs xs' → maxInts x xs = some v →
    ∃ v', (xs'.foldlM Builtin.max2 x').run P w = .ok v' w ∧ VRel r v v' := by
  intro xs
  induction xs with
  | nil => intro x x' xs' v hx hxs h; rw [hxs.nil_inv]; cases h; exact ⟨x', rfl, hx⟩
  | cons y ys ih =>
    intro x x' xs' v hx hxs h
    obtain ⟨y', ys', rfl, hy, hys⟩ := hxs.cons_inv
    simp only [maxInts] at h
    split at h
    · rename_i k a k' b
      rw [hx.int_inv, hy.int_inv]
      obtain ⟨v', e, hv⟩ := ih (.int k (if b > a then b else a)) hys h
      exact ⟨v', by simpa [Builtin.max2] using e, hv⟩
    · cases h

include hT in
theorem lenOp_ok {t : TypeId} {ts : Array TypeId} {ty : TypeId} {x : AVal} {x' : Value} {args : Array Value} {v : AVal} (h0 : ts[0]? = some t) (h1 : args[0]? = some x') (hx : VRel r x x')
    (h : lenOp T t x = some v) : ∃ v', (Builtin.len_ ts ty args).run P w = .ok v' w ∧ VRel r v v' := by
  unfold lenOp at h
  split at h
  · rename_i s hd
    cases h
    obtain ⟨s', rfl, es⟩ := hx.str_inv
    rw [← es, data_size]
    exact ⟨_, by simp [Builtin.len_, h0, h1, run_und hT hd]; rfl, .int _ _⟩
  · rename_i n e hd
    cases h
    refine ⟨_, ?_, .int .i64 n⟩
    simp [Builtin.len_, h0, h1, run_und hT hd]
    rfl
  · rename_i a hd
    split at h
    · rename_i n e hd2
      cases h
      refine ⟨_, ?_, .int .i64 n⟩
      simp [Builtin.len_, h0, h1, run_und hT hd, run_und hT hd2]
      rfl
    · cases h
  · rename_i e hd
    cases h
    rw [hx.nslice_inv] at h1
    exact ⟨_, by simp [Builtin.len_, h0, h1, run_und hT hd]; rfl, .int _ _⟩
  · rename_i e b o n esz c hd
    cases h
    obtain ⟨B, a, c, hB, rfl, hc, hl, hr⟩ := hx.slice_inv
    exact ⟨_, by simp [Builtin.len_, h0, h1, run_und hT hd]; rfl, .int _ _⟩
  · rename_i e k hd
    cases h
    rw [hx.nmap_inv] at h1
    exact ⟨_, by simp [Builtin.len_, h0, h1, run_und hT hd]; rfl, .int _ _⟩
  · cases h

include hT in
theorem capOp_ok {t : TypeId} {ts : Array TypeId} {ty : TypeId} {x : AVal} {x' : Value} {args : Array Value} {v : AVal} (h0 : ts[0]? = some t) (h1 : args[0]? = some x') (hx : VRel r x x')
    (h : capOp T t x = some v) : ∃ v', (Builtin.cap_ ts ty args).run P w = .ok v' w ∧ VRel r v v' := by
  unfold capOp at h
  split at h
  · rename_i n e hd
    cases h
    refine ⟨_, ?_, .int .i64 n⟩
    simp [Builtin.cap_, h0, h1, run_und hT hd]
    rfl
  · rename_i e hd
    cases h
    rw [hx.nslice_inv] at h1
    exact ⟨_, by simp [Builtin.cap_, h0, h1, run_und hT hd]; rfl, .int _ _⟩
  · rename_i e b o len esz n hd
    cases h
    obtain ⟨B, a, c, hB, rfl, hc, hl, hr⟩ := hx.slice_inv
    cases hc
    exact ⟨_, by simp [Builtin.cap_, h0, h1, run_und hT hd]; rfl, .int _ _⟩
  · cases h

include hT in
theorem convOp_ok {src dst : TypeId} {x : AVal} {x' : Value} {v : AVal} (hx : VRel r x x') (h : convOp T src dst x = some v) :
    ∃ v', (Go.convert src dst x').run P w = .ok v' w ∧ VRel r v v' := by
  unfold convOp at h
  split at h
  · rename_i d k k' n hs hd
    cases h
    rw [hx.int_inv]
    exact ⟨_, by simp [Go.convert, run_und hT hs, run_und hT hd, Conv.intToInt], .int _ _⟩
  · rename_i d s hs hd
    cases h
    obtain ⟨s', rfl, es⟩ := hx.str_inv
    exact ⟨.string s', by simp [Go.convert, run_und hT hs, run_und hT hd], .str _ _ es⟩
  · cases h

theorem oRel {n : Nat} {t : Tree AVal} {a : Act} (hg : GlobOk T r) (ht : TRel D r t n a) (x : Option Operand) : ORel r (x.map (ev T t)) (x.map a.eval) := by
  cases x with
  | none => exact .none
  | some x => exact .some (ev_rel hg ht x)

/-- What an operation that is a value gives. -/
def GivesV (P : Program) (a : Act) (o : Oper) (w : World) (r : Ren) (v : AVal) (w' : World) : Prop :=
  ∃ v', (execOp a.eval o).run P w = .ok (.value v') w' ∧ VRel r v v'

theorem givesV_of {a : Act} {o : Oper} {v : AVal} {x : Sem Value} {w' : World} (e : execOp a.eval o = (do pure (.value (← x)))) (h : ∃ v', x.run P w = .ok v' w' ∧ VRel r v v') : GivesV P a o w r v w' := by
  obtain ⟨v', e1, hv⟩ := h
  exact ⟨v', by rw [e]; simp [e1], hv⟩

include hT in
theorem pureBuiltin_ok {b : Builtin} {ts : Array TypeId} {ty : TypeId} {cs : Array Bool} {args : List AVal} {args' : Array Value} {v : AVal} (ha : VsRel r args args'.toList)
    (h : pureBuiltin T b ts args = some v) : ∃ v', (builtin b ts ty cs args').run P w = .ok (.value v') w ∧ VRel r v v' := by
  unfold pureBuiltin at h
  split at h
  · rename_i x rest
    obtain ⟨x', rest', e, hx, _⟩ := ha.cons_inv
    split at h
    · rename_i t ht
      have h1 : args'[0]? = some x' := by rw [← Array.getElem?_toList, e]; rfl
      obtain ⟨v', e1, hv⟩ := lenOp_ok hT w (ty := ty) ht h1 hx h
      exact ⟨v', by simp [builtin, e1], hv⟩
    · cases h
  · rename_i x rest
    obtain ⟨x', rest', e, hx, _⟩ := ha.cons_inv
    split at h
    · rename_i t ht
      have h1 : args'[0]? = some x' := by rw [← Array.getElem?_toList, e]; rfl
      obtain ⟨v', e1, hv⟩ := capOp_ok hT w (ty := ty) ht h1 hx h
      exact ⟨v', by simp [builtin, e1], hv⟩
    · cases h
  · rename_i x rest
    obtain ⟨x', rest', e, hx, hr⟩ := ha.cons_inv
    obtain ⟨v', e1, hv⟩ := minInts_ok (P := P) w hx hr h
    exact ⟨v', by simp [builtin, Builtin.min_, e, e1], hv⟩
  · rename_i x rest
    obtain ⟨x', rest', e, hx, hr⟩ := ha.cons_inv
    obtain ⟨v', e1, hv⟩ := maxInts_ok (P := P) w hx hr h
    exact ⟨v', by simp [builtin, Builtin.max_, e, e1], hv⟩
  · cases h
    obtain ⟨x', rest', e, hx, hr⟩ := ha.cons_inv
    rw [hr.nil_inv, hx.nslice_inv] at e
    have e' : args' = #[.slice none 0 0] := Array.toList_inj.1 e
    subst e'
    exact ⟨.pointer none, rfl, .nptr⟩
  · rename_i b o len esz c
    split at h
    · cases h
    · rename_i n hc
      cases h
      obtain ⟨x', rest', e, hx, hr⟩ := ha.cons_inv
      obtain ⟨B, a, k, hB, rfl, hcap, hl, haddr⟩ := hx.slice_inv
      rw [hr.nil_inv] at e
      have e' : args' = #[.slice (some a) len k] := Array.toList_inj.1 e
      subst e'
      have hk : k ≠ 0 := by have := Cap.low_le hcap; omega
      rcases haddr with h0 | ⟨h0, _⟩
      · exact absurd h0 hk
      · subst h0
        obtain ⟨k, rfl⟩ : ∃ j, k = j + 1 := ⟨k - 1, by omega⟩
        exact ⟨_, rfl, .ptr b o B hB⟩
  · cases h

include hT in
/-- THE PURE OPERATIONS. -/
theorem evP_ok {n : Nat} {t : Tree AVal} {a : Act} {o : Oper} {v : AVal} (hg : GlobOk T r) (ht : TRel D r t n a) (h : evP T t o.op = some v) : GivesV P a o w r v w := by
  have E := fun x => ev_rel hg ht x
  cases ho : o.op with
  | move x => rw [ho] at h; cases h; exact ⟨_, by simp [execOp, ho], E x⟩
  | assign x => rw [ho] at h; cases h; exact ⟨_, by simp [execOp, ho], E x⟩
  | pick c x y =>
    rw [ho] at h
    simp only [evP] at h
    split at h
    · rename_i hc; cases h; have := E c; rw [hc] at this; exact ⟨_, by simp [execOp, ho, this.bool_inv, asBool], E x⟩
    · rename_i hc; cases h; have := E c; rw [hc] at this; exact ⟨_, by simp [execOp, ho, this.bool_inv, asBool], E y⟩
    · cases h
  | nilCheck x =>
    rw [ho] at h
    simp only [evP] at h
    have hx := E x
    split at h
    · rename_i hc; cases h; rw [hc] at hx; obtain ⟨B, hB, e⟩ := hx.ptr_inv; exact ⟨_, by simp [execOp, ho, e], .ptr _ _ B hB⟩
    · rename_i f a1 b1 hc; cases h; rw [hc] at hx; obtain ⟨f', c', e, h1, h2⟩ := hx.func_inv; exact ⟨_, by simp [execOp, ho, e], .func _ _ _ _ _ h1.len h2.len h1.at_ h2.at_⟩
    · rename_i u1 v1 hc; cases h; rw [hc] at hx; obtain ⟨u', e, h1⟩ := hx.iface_inv; exact ⟨_, by simp [execOp, ho, e], .iface _ _ _ h1⟩
    · cases h
  | binOp op xt x y yt =>
    rw [ho] at h
    exact givesV_of w (by simp only [execOp, ho]) (binop_ok hT w (E x) (E y) h)
  | unOp op xt x =>
    rw [ho] at h
    exact givesV_of w (by simp only [execOp, ho]) (unop_ok w (E x) h)
  | convert s d x =>
    rw [ho] at h
    exact givesV_of w (by simp only [execOp, ho]) (convOp_ok hT w (E x) h)
  | makeInterface xt x =>
    rw [ho] at h
    simp only [evP] at h
    split at h
    · cases h
    · cases h
    · rename_i d hn hd
      cases h
      refine givesV_of w (x := Instr.makeInterface xt (a.eval x)) (by simp only [execOp, ho]) ⟨.iface xt (a.eval x), ?_, .iface _ _ _ (E x)⟩
      cases d <;> first | exact absurd rfl (fun e => hn _ e) | (simp [Instr.makeInterface, run_und hT hd])
  | makeFunc fn first captured =>
    rw [ho] at h
    cases h
    have h1 := evList_rel hg ht first
    have h2 := evList_rel hg ht captured
    exact givesV_of w (x := Instr.makeFunc fn (first.map a.eval) (captured.map a.eval)) (by simp only [execOp, ho]) ⟨_, rfl, .func _ _ _ _ _ h1.len h2.len h1.at_ h2.at_⟩
  | slice xt x lo hi mx =>
    rw [ho] at h
    exact givesV_of w (by simp only [execOp, ho]) (sliceOp_ok hT w (E x) (oRel hg ht lo) (oRel hg ht hi) (oRel hg ht mx) h)
  | fieldAddr s x f =>
    rw [ho] at h
    exact givesV_of w (by simp only [execOp, ho]) (fieldAddrOp_ok hT w (E x) h)
  | field s x f =>
    rw [ho] at h
    exact givesV_of w (by simp only [execOp, ho]) (fieldOp_ok hT w (E x) h)
  | indexAddr xt x i =>
    rw [ho] at h
    exact givesV_of w (by simp only [execOp, ho]) (indexAddrOp_ok hT w (E x) (E i) h)
  | index xt x i =>
    rw [ho] at h
    exact givesV_of w (by simp only [execOp, ho]) (indexOp_ok hT w (E x) (E i) h)
  | typeAssert x xt at_ ok =>
    rw [ho] at h
    exact givesV_of w (by simp only [execOp, ho]) (assertOp_ok hT w (xt := xt) (E x) h)
  | extract x i =>
    rw [ho] at h
    simp only [evP] at h
    split at h
    · rename_i vs hc
      have hx := E x
      rw [hc] at hx
      obtain ⟨vs', e, hvs⟩ := hx.tuple_inv
      obtain ⟨v', e1, hv⟩ := hvs.get h
      have e2 : vs'[i]? = some v' := by rw [← Array.getElem?_toList]; exact e1
      exact givesV_of w (x := Instr.extract (a.eval x) i) (by simp only [execOp, ho]) ⟨v', by simp [Instr.extract, e, e2], hv⟩
    · cases h
  | build u parts =>
    rw [ho] at h
    obtain ⟨p1, p2⟩ := parts_rel (T := T) hg ht parts
    exact givesV_of w (by simp only [execOp, ho]) (buildOp_ok hT w p1 p2 h)
  | call c =>
    rw [ho] at h
    simp only [evP] at h
    split at h
    · rename_i b hb
      obtain ⟨cs, e0⟩ : ∃ cs, execOp a.eval o = builtin b c.argTypes o.type cs (c.args.map a.eval) := ⟨_, by simp only [execOp, ho, resolve, hb]; rfl⟩
      obtain ⟨v', e, hv⟩ := pureBuiltin_ok hT w (ty := o.type) (cs := cs) (evList_rel hg ht c.args) h
      exact ⟨v', by rw [e0]; exact e, hv⟩
    · cases h
  | _ => rw [ho] at h; cases h
end
end Ev
end Go.Proofs.YtfddpaljmihinaaGreatDoor
