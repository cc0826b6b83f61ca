/-
  From a row's assumptions to the law's first memory, and back. (Conditions: none beyond what each theorem asks.)
-/
import Derived.HandedShaped
import Derived.Test.YtjmapihogpdocaaGreatDoorEvSeat
import Derived.Lib.LaidU8
import Derived.LaidLaws
import Derived.Shelf.Vars
import Derived.Below
import Derived.ProofKit
import Derived.OpenShut
import Derived.LaidMore
import Derived.Lay
/-! ## EvHanded -/
namespace Go.Proofs.YtjmapihogpdocaaGreatDoor
open Go
variable {H : Type} {enc : TypeId × Value → H}

theorem returnsInHanded_both {a : Assume} {C : Checked} {os : Os} {f : FuncId} {fn : Func} {s : ChangeSpec} {conds : List PathCond} {apart fresh handsOn again : Bool} {X : World → Array Value → Prop}
    (hX : ∀ (w w' : World) (args : Array Value), w.heap = w'.heap → X w args → X w' args)
    (own : ownKnob C.prog.godebug = none) (started : os.Started) (noInit : C.prog.inits.idxOf? f = none) (hfn : C.prog.funcs[f]? = some fn)
    (witness : ∃ (w : World) (tape : Tape) (i : Input), w.os = os ∧ (w.forCall tape i).Shaped C.prog ∧ i.vars = [] ∧ Input.okWide C.prog (w.forCall tape i) .any w.heap.size f i ∧
      ((s.pre enc C.prog fn conds apart (w.forCall tape i).memory i.args ∧ X (w.forCall tape i).memory i.args) ∧ sizedMet enc C.prog fn (OpenSpec.ofChange s) apart (w.forCall tape i).memory i.args) ∧ a.holds C.prog (lone (Frame.enter C.prog f i.args .normal) [] (w.forCall tape i)))
    (contract : ∀ (W : World) (base : Nat) (args : Array Value) (ds gs : List (DataW H)) (before : List MemPlace),
      (∀ (j : Nat) t v, fn.params[j]? = some t → args[j]? = some v → Value.okWide C.prog W .any base t v) →
      DataW.Whole enc C.prog fn.params.toList s.vars apart W args.toList ds gs before →
      conds.all (PathCond.test C.prog ⟨fn.params.toList, ds, s.plain.varTypes C.prog, gs⟩) = true →
      (DataW.weightsEach C.prog (fn.params.toList ++ s.plain.varTypes C.prog) (ds ++ gs)).all (· ≤ reachBytes) = true → X W args →
      W.ShapedOpen C.prog →
      a.holds C.prog (lone (Frame.enter C.prog f args .normal) [] W) →
      Calls C.prog f args W fun e W' => ∃ v, e = .returned v ∧ s.post enc C.prog fn apart fresh handsOn again W args v W') :
    ReturnsInHanded a C os f .any (fun w args => (s.pre enc C.prog fn conds apart w args ∧ X w args) ∧ sizedMet enc C.prog fn (OpenSpec.ofChange s) apart w args) (s.post enc C.prog fn apart fresh handsOn again) := by
  refine returnsInHanded_of_calls own started noInit witness ?_
  intro w tape i _ hsh _ hok hpre hholds
  obtain ⟨_, _, _, fn', hfn', _, _, _, _, hval⟩ := hok
  have e : fn' = fn := Option.some.inj (hfn'.symm.trans hfn)
  subst e
  obtain ⟨⟨⟨ds, gs, before, hw, hc⟩, hx⟩, hz⟩ := hpre
  have hw' := DataW.Whole.of_heap (w' := w.forCall tape i) (by rfl) hw
  refine (contract (w.forCall tape i) w.heap.size i.args ds gs before hval hw' hc (hz.weights hw) (hX _ _ _ (by rfl) hx) hsh hholds).mono fun e W' ⟨v, he, hp⟩ => ?_
  subst he
  exact ChangeSpec.post_blind hp
end Go.Proofs.YtjmapihogpdocaaGreatDoor

/-! ## EvStart -/
namespace Go.Proofs.YtjmapihogpdocaaGreatDoor
namespace Ev
open Go
noncomputable section

def intsOf (k : IntKind) (l : List Int) : List AVal := l.map fun n => .int k n

def firstZ : List Int := Go.Pinned.utf8FirstZ.map Int.ofNat
def accZ : List Int := [128,191,160,191,128,159,144,191,128,143,0,0,0,0,0,0,0,0,0,0,0,0,0,0,0,0,0,0,0,0,0,0]
def litsOf : DataW Unit → List Int
  | .agg ds => ds.map fun d => match d with | .lit (.int _ n) => n | _ => 0
  | _ => []
def powZ : List Int := litsOf Rows.laid_internal_strconv_uint64pow10
def db32Z : List Int := litsOf Rows.laid_math_bits_deBruijn32tab
def db64Z : List Int := litsOf Rows.laid_math_bits_deBruijn64tab

/-- 'z': what MaxLen holds; 'u1', 'u2': the type of the two errors of strconv. -/
def startMem (z : Int) (u1 u2 : TypeId) : AMem :=
  ⟨8, ((((((((Tree.leaf.put 0 (.cells 3 [.int .i64 z] true 0 false)).put 1 (.cells 506 (intsOf .u64 powZ) true 0 false)).put 2 (.cells 544 (intsOf .u8 firstZ) true 0 false)).put 3 (.cells 547 (intsOf .u8 accZ) true 0 false)).put 4 (.cells 85 [.iface u1 .any] true 0 false)).put 5 (.cells 85 [.iface u2 .any] true 0 false)).put 6 (.cells 565 (intsOf .u8 db32Z) true 0 false)).put 7 (.cells 566 (intsOf .u8 db64Z) true 0 false))⟩

def startRen (w : World) : Ren := ⟨fun b => match w.heap[b]? with
  | some (.cells c _ _) => if b < 8 then some ⟨b, 0, c.size⟩ else none
  | _ => none⟩

/-- A row of the world that reads as these values. -/
def RowIs (w : World) (g : Nat) (e : TypeId) (vs : List AVal) : Prop := ∃ c fr, w.heap[g]? = some (.cells c e fr) ∧ VsRel ⟨fun _ => none⟩ vs (c.toList.take vs.length) ∧ vs.length ≤ c.size

theorem start_rel {w : World} {z : Int} {u1 u2 : TypeId} (h0 : RowIs w 0 3 [.int .i64 z]) (h1 : RowIs w 1 506 (intsOf .u64 powZ)) (h2 : RowIs w 2 544 (intsOf .u8 firstZ)) (h3 : RowIs w 3 547 (intsOf .u8 accZ)) (h4 : RowIs w 4 85 [.iface u1 .any]) (h5 : RowIs w 5 85 [.iface u2 .any]) (h6 : RowIs w 6 565 (intsOf .u8 db32Z)) (h7 : RowIs w 7 566 (intsOf .u8 db64Z)) :
    GlobOk seat (startRen w) ∧ MemRel (startRen w) (startMem z u1 u2).next (startMem z u1 u2).get w := by
  have key : ∀ b k, (startMem z u1 u2).get b = some k → b < 8 ∧ ∃ e vs, k = .cells e vs true 0 false ∧ RowIs w b e vs := by
    intro b k h
    simp only [startMem, AMem.get, Tree.get_put, Tree.get_leaf] at h
    split at h
    · rename_i e; subst e; cases h; exact ⟨by decide, _, _, rfl, h7⟩
    split at h
    · rename_i e; subst e; cases h; exact ⟨by decide, _, _, rfl, h6⟩
    split at h
    · rename_i e; subst e; cases h; exact ⟨by decide, _, _, rfl, h5⟩
    split at h
    · rename_i e; subst e; cases h; exact ⟨by decide, _, _, rfl, h4⟩
    split at h
    · rename_i e; subst e; cases h; exact ⟨by decide, _, _, rfl, h3⟩
    split at h
    · rename_i e; subst e; cases h; exact ⟨by decide, _, _, rfl, h2⟩
    split at h
    · rename_i e; subst e; cases h; exact ⟨by decide, _, _, rfl, h1⟩
    split at h
    · rename_i e; subst e; cases h; exact ⟨by decide, _, _, rfl, h0⟩
    cases h
  have at_ : ∀ b e vs, b < 8 → RowIs w b e vs → ∃ c fr, w.heap[b]? = some (.cells c e fr) ∧ (startRen w).at_ b = some ⟨b, 0, c.size⟩ ∧ VsRel ⟨fun _ => none⟩ vs (c.toList.take vs.length) ∧ vs.length ≤ c.size := by
    intro b e vs hb ⟨c, fr, e1, e2, e3⟩
    exact ⟨c, fr, e1, by simp [startRen, e1, hb], e2, e3⟩
  have inv : ∀ b B, (startRen w).at_ b = some B → b < 8 ∧ B.cb = b ∧ b < w.heap.size := by
    intro b B h
    simp only [startRen] at h
    split at h
    · rename_i c e fr hc
      split at h
      · rename_i hb
        cases h
        refine ⟨hb, rfl, ?_⟩
        rcases Nat.lt_or_ge b w.heap.size with q | q
        · exact q
        · rw [Array.getElem?_eq_none q] at hc; cases hc
      · cases h
    · cases h
  refine ⟨fun g hg => ?_, ⟨fun b B h => (inv b B h).1, fun b B h => by rw [(inv b B h).2.1]; exact (inv b B h).2.2, fun b k h => ?_, fun b1 k1 b2 k2 B1 B2 g1 _ _ _ hw _ => ?_, fun b B e vs ro frz h _ => ?_⟩⟩
  · have hg8 : g ≤ 7 := Nat.le_of_ble_eq_true hg
    have all : ∃ e vs, RowIs w g e vs := by
      match g, hg8 with
      | 0, _ => exact ⟨_, _, h0⟩
      | 1, _ => exact ⟨_, _, h1⟩
      | 2, _ => exact ⟨_, _, h2⟩
      | 3, _ => exact ⟨_, _, h3⟩
      | 4, _ => exact ⟨_, _, h4⟩
      | 5, _ => exact ⟨_, _, h5⟩
      | 6, _ => exact ⟨_, _, h6⟩
      | 7, _ => exact ⟨_, _, h7⟩
    obtain ⟨e, vs, hr⟩ := all
    obtain ⟨c, fr, _, e2, _⟩ := at_ g e vs (by omega) hr
    exact ⟨_, e2, rfl, rfl⟩
  · obtain ⟨hb, e, vs, rfl, hr⟩ := key b k h
    obtain ⟨c, fr, e1, e2, e3, e4⟩ := at_ b e vs hb hr
    refine ⟨_, e2, c, fr, e1, rfl, by simpa using e4, ?_, fun h => Bool.noConfusion h⟩
    simpa using e3.mono (r' := startRen w) (fun b B h => by cases h)
  · obtain ⟨_, e, vs, rfl, _⟩ := key b1 k1 g1
    cases hw
  · obtain ⟨_, e', vs', h', _⟩ := key b _ h
    cases h'
end
end Ev
end Go.Proofs.YtjmapihogpdocaaGreatDoor

/-! ## EvLaid -/
namespace Go.Proofs.YtjmapihogpdocaaGreatDoor
namespace Ev
open Go Go.Lib

section
variable {P : Program} {w : World}

theorem row_of_shape (h : w.ShapedOpen P) {g : Nat} {t : TypeId} (hg : g < P.globals.size)
    (h0 : (((begin P (fun _ _ => 0) default).world.heap[g]?).bind Obj.row?).map (·.2) = some t) : ∃ c fr, w.heap[g]? = some (.cells c t fr) := by
  cases e : ((begin P (fun _ _ => 0) default).world.heap[g]?).bind Obj.row? with
  | none => rw [e] at h0; cases h0
  | some x =>
    obtain ⟨zero, t'⟩ := x
    rw [e] at h0
    cases h0
    obtain ⟨cs, a, _, _⟩ := h.1 g zero t' hg e
    exact ⟨cs, _, a⟩

theorem var_row {g : Nat} {n : String} {cs c : Array Value} {t : TypeId} {fr : Nat × Nat} (hn : P.globalNamed n = some g) (hv : w.var? P n = some cs) (hc : w.heap[g]? = some (.cells c t fr)) : c = cs := by
  simp only [World.var?, hn, Option.bind_some, hc] at hv
  exact Option.some.inj hv

theorem vs_ints {r : Ren} {k : IntKind} (zs : List Int) : VsRel r (intsOf k zs) (zs.map fun z => Value.int k z) :=
  ⟨by simp [intsOf], fun i v v' h h' => by
    simp only [intsOf, List.getElem?_map, Option.map_eq_some_iff] at h h'
    obtain ⟨z, hz, rfl⟩ := h
    obtain ⟨z', hz', rfl⟩ := h'
    rw [hz] at hz'
    cases hz'
    exact .int k z⟩

theorem rowIs_of {g : Nat} {t : TypeId} {vs : List AVal} {c : Array Value} {fr : Nat × Nat} (hc : w.heap[g]? = some (.cells c t fr)) (h : VsRel ⟨fun _ => none⟩ vs c.toList) : RowIs w g t vs := by
  have hl := h.len
  refine ⟨c, fr, hc, ?_, by simp at hl; omega⟩
  rw [← hl, List.take_length]
  exact h

theorem rowIs_tab {g : Nat} {t e : TypeId} {m : Nat} {k : IntKind} {zs : List Int} {n : String} (hs : ∃ c fr, w.heap[g]? = some (.cells c t fr)) (hn : P.globalNamed n = some g) (hty : (P.globals[g]?).map (·.type) = some t)
    (ht : P.underlying t = some (.array m e)) (he : P.underlying e = some (.int k)) (hce : P.cellsOf e = 1) (hct : P.cellsOf t = m) (hr : VarReads P w n (tabData k zs)) : RowIs w g t (intsOf k zs) := by
  obtain ⟨g', t', cs, fuel, p, h1, h2, h3, h4⟩ := hr
  obtain rfl := Option.some.inj (hn.symm.trans h1)
  obtain rfl := Option.some.inj (hty.symm.trans h2)
  have hcs := cells_of_tab ht he hce hct h4
  obtain ⟨c, fr, hc⟩ := hs
  obtain rfl := var_row hn h3 hc
  exact rowIs_of hc (by rw [hcs]; exact vs_ints zs)

theorem rowIs_structs {g : Nat} {t e : TypeId} {m s : Nat} {fs : Array Field} {k : IntKind} {zs : List Int} {zss : List (List Int)} {n : String} (hs : ∃ c fr, w.heap[g]? = some (.cells c t fr)) (hn : P.globalNamed n = some g) (hty : (P.globals[g]?).map (·.type) = some t)
    (ht : P.underlying t = some (.array m e)) (he : P.underlying e = some (.struct fs)) (hf : ∀ (i : Nat) (f : Field), fs[i]? = some f → P.underlying f.type = some (.int k) ∧ f.offset = i ∧ P.cellsOf f.type = 1) (hce : P.cellsOf e = s) (hfs : fs.size = s) (hs0 : 0 < s)
    (hz : ∀ q, q < m * s → zs[q]? = (zss[q / s]?).bind (·[q % s]?)) (hzl : zs.length = m * s) (hr : VarReads P w n (.agg (zss.map fun zs => .agg (zs.map fun z => .lit (.int k z))))) : RowIs w g t (intsOf k zs) := by
  obtain ⟨g', t', cs, fuel, p, h1, h2, h3, h4⟩ := hr
  obtain rfl := Option.some.inj (hn.symm.trans h1)
  obtain rfl := Option.some.inj (hty.symm.trans h2)
  obtain ⟨c, fr, hc⟩ := hs
  obtain rfl := var_row hn h3 hc
  have cell : ∀ (q : Nat) (z : Int), zs[q]? = some z → c.toList[q]? = some (Value.int k z) := by
    intro q z hq
    have hql : q < m * s := by
      rw [← hzl]
      exact (List.getElem?_eq_some_iff.1 hq).1
    have hi : q / s < m := Nat.div_lt_of_lt_mul (by rw [Nat.mul_comm]; exact hql)
    obtain ⟨fuel', d, p', e1, e2⟩ := array_elem ht h4 (q / s) hi
    rw [hz q hql] at hq
    cases e3 : zss[q / s]? with
    | none => rw [e3] at hq; cases hq
    | some us =>
      rw [e3, Option.bind_some] at hq
      rw [List.getElem?_map, e3] at e1
      cases e1
      have e4 := ints_of_struct he hf (by rw [hce, hfs]) e2
      rw [hce] at e4
      have e5 := congrArg (fun l => l[q % s]?) e4
      have hqs : q % s < s := Nat.mod_lt _ hs0
      have hdm : q / s * s + q % s = q := by rw [Nat.mul_comm]; exact Nat.div_add_mod q s
      simpa [List.getElem?_take, List.getElem?_drop, hqs, hdm, List.getElem?_map, hq] using e5
  have hsz : zs.length ≤ c.size := by
    rcases Nat.lt_or_ge c.size zs.length with q | q
    · have := cell c.size zs[c.size] (List.getElem?_eq_getElem q)
      simp at this
    · exact q
  refine ⟨c, fr, hc, ⟨by simp [intsOf]; omega, fun i v v' e1 e2 => ?_⟩, by simpa [intsOf] using hsz⟩
  simp only [intsOf, List.getElem?_map, Option.map_eq_some_iff] at e1
  obtain ⟨z, e1, rfl⟩ := e1
  have := cell i z e1
  rw [List.getElem?_take] at e2
  split at e2
  · rw [this] at e2; cases e2; exact .int k z
  · cases e2

theorem rowIs_err {g : Nat} {t : TypeId} {ms : Array (String × TypeId)} {nm : String} {d : DataW Unit} {n : String} (hs : ∃ c fr, w.heap[g]? = some (.cells c t fr)) (hn : P.globalNamed n = some g) (hty : (P.globals[g]?).map (·.type) = some t)
    (ht : P.underlying t = some (.interface ms)) (hr : VarReads P w n (.iface nm d)) {u0 : TypeId} (hu : ∀ u, P.typeName? 3 u = some nm → u = u0) : RowIs w g t [.iface u0 .any] := by
  obtain ⟨g', t', cs, fuel, p, h1, h2, h3, h4⟩ := hr
  obtain rfl := Option.some.inj (hn.symm.trans h1)
  obtain rfl := Option.some.inj (hty.symm.trans h2)
  obtain ⟨_, u, v, hcs, hnm, _⟩ := iface_of_trod ht h4
  obtain rfl := hu u hnm
  obtain ⟨c, fr, hc⟩ := hs
  obtain rfl := var_row hn h3 hc
  exact rowIs_of hc (by rw [hcs]; exact .cons (.iface _ _ _ (.any _)) (.nil _))

theorem rowIs_int {g : Nat} {t : TypeId} {k : IntKind} (hs : ∃ c fr, w.heap[g]? = some (.cells c t fr)) (h : ∃ m, w.cell? ⟨g, 0, none⟩ = some (.int k m)) : ∃ z, RowIs w g t [.int k z] := by
  obtain ⟨c, fr, hc⟩ := hs
  obtain ⟨z, hz⟩ := h
  have h0 : c[0]? = some (Value.int k z) := by
    have : (c[0]?) = w.cell? ⟨g, 0, none⟩ := by simp [World.cell?, hc]
    rw [this]; exact hz
  have h1 : 0 < c.size := (Array.getElem?_eq_some_iff.1 h0).1
  refine ⟨z, c, fr, hc, ?_, h1⟩
  have : c.toList.take 1 = [.int k z] := by
    rw [← Array.getElem?_toList] at h0
    cases hl : c.toList with
    | nil => rw [hl] at h0; cases h0
    | cons x r => rw [hl] at h0; cases h0; rfl
  show VsRel _ _ (c.toList.take 1)
  rw [this]
  exact .cons (.int k z) (.nil _)
end
end Ev
end Go.Proofs.YtjmapihogpdocaaGreatDoor

/-! ## EvLaw -/
namespace Go.Proofs.YtjmapihogpdocaaGreatDoor
namespace Ev
open Go Go.ChangeShapes Go.WideShapes Go.ChangeAt Go.RowKit

theorem below_of_step {r r' : Ren} {m m' : AMem} {w w' : World} (h : Step r m.next m.get w r' m'.next m'.get w') (hro : ∀ b k, m.get b = some k → k.writable = false) : Below w.heap.size w w' :=
  ⟨h.os, h.tape, h.output, h.size, fun cb hcb => h.keep cb hcb fun b k B hb hw => by rw [hro b k hb] at hw; cases hw⟩

/-- A call that the evaluator answers with true. -/
theorem calls_true {T : Tab} {P : Program} {f : FuncId} {fn : Func} {F : List AVal → AMem → Out AVal} (hF : CallOk T P f F) (hf : P.funcs[f]? = some fn) (hb : fn.body.isNone = false) (hn : (fn.name == "runtime.NumGoroutine") = false)
    {r : Ren} {W : World} {m : AMem} {args : List AVal} {args' : Array Value} (hg : GlobOk T r) (hm : MemRel r m.next m.get W) (ha : VsRel r args args'.toList) (hro : ∀ b k, m.get b = some k → k.writable = false)
    (hrun : (F args m).isTrue = true) : Calls P f args' W fun e W' => e = .returned (.bool true) ∧ Below W.heap.size W W' := by
  have hout : ∃ m', F args m = .ok (.bool true) m' := by
    unfold Out.isTrue at hrun
    split at hrun
    · exact ⟨_, by assumption⟩
    · cases hrun
  obtain ⟨m', hout⟩ := hout
  have hc := hF r W m args args' hg hm ha (by rw [hout]; trivial)
  rw [hout] at hc
  have henter : (callFunc f args').run P W = .ok (.enter f args') W := by
    have h2 : ¬ fn.name = "runtime.NumGoroutine" := by simpa using hn
    have h3 : ¬ fn.body = none := by intro e; rw [e] at hb; cases hb
    simp [callFunc, hf, h2, h3]
  rcases hc with ⟨v, w', h1, _⟩ | ⟨_, h⟩
  · rw [henter] at h1; cases h1
  · refine h.mono fun e W' hp => ?_
    obtain ⟨r', v', rfl, hv, hst⟩ := hp
    exact ⟨by rw [hv.bool_inv], below_of_step hst hro⟩

theorem start_ro {z : Int} {u1 u2 : TypeId} : ∀ b k, (startMem z u1 u2).get b = some k → k.writable = false := by
  intro b k h
  simp only [startMem, AMem.get, Tree.get_put, Tree.get_leaf] at h
  repeat' split at h
  all_goals first | (cases h; rfl) | cases h

section
variable {H : Type} {enc : TypeId × Value → H} {P : Program}

/-- What a law's row asks behind a call that leaves the old blocks as they were. -/
theorem post_of_old {f : Func} {s : ChangeSpec} {apart fresh handsOn again : Bool} {W W' : World} {args : Array Value} {v : Value} {ds gs : List (DataW H)} {before pa pv : List MemPlace} (hW : DataW.Whole enc P f.params.toList s.vars apart W args.toList ds gs before)
    (hres : ∀ (b : Nat) (sp : Nat → Bool) (hd : Bool), DataW.TrodAll enc P W' b sp hd f.resultTypes.toList (v.resultList f.resultTypes.size) (s.fn H (ds ++ gs)).results [])
    (hargs : ∀ sp : Nat → Bool, (∀ p ∈ before, sp p.block = true) → DataW.TrodAll enc P W' 0 sp true f.params.toList args.toList (s.fn H (ds ++ gs)).args pa)
    (hvars : ∀ sp : Nat → Bool, (∀ p ∈ before, sp p.block = true) → DataW.TrodVars enc P W' sp s.vars (s.fn H (ds ++ gs)).vars pv) (hps : before = pa ++ pv) (hbelow : Below W.heap.size W W')
    (hok : ∀ (j : Nat) (t : TypeId) (r : Value), f.resultTypes[j]? = some t → (v.resultList f.resultTypes.size)[j]? = some r → Value.okWide P W' .any 0 t r) : s.post enc P f apart fresh handsOn again W args v W' := by
  have hlt := hW.lt
  have hold : ∀ p ∈ before, (fun b => decide (b < W.heap.size)) p.block = true := fun p hp => decide_eq_true (hlt p hp)
  have hin : ∀ p, p ∈ ([] ++ pa) ++ pv ↔ p ∈ before := fun p => by rw [hps, List.nil_append]
  refine ⟨ds, gs, before, [], pa, pv, hW, hres _ _ _, hargs _ hold, hvars _ hold, World.keptBut_mono (fun p hp => ⟨hp, ?_⟩) (hbelow.frame (· ∈ before)), fun _ => ?_⟩
  · exact .inr (by simpa using (hin p).2 hp)
  obtain ⟨_, _, _, _, _, hz, hn⟩ := hW
  refine ⟨hok, _, _, ([] ++ pa) ++ pv, ⟨[] ++ pa, pv, trodAll_append (hargs _ fun _ _ => rfl) (hres _ _ _), hvars _ fun _ _ => rfl, rfl, fun b off hp => ?_, fun ha => ?_⟩, fun p hp _ => (hin p).1 hp⟩
  · have hp' := (hin _).1 hp
    rw [hbelow.frozen (p := ⟨b, off, none⟩) (hlt _ hp')]
    exact hz b off hp'
  · have hk := hn ha
    rw [hps] at hk
    simpa using hk
end
end Ev
end Go.Proofs.YtjmapihogpdocaaGreatDoor

/-! ## EvBegin -/
namespace Go.Proofs.YtjmapihogpdocaaGreatDoor
namespace Ev
open Go Go.Lib

/-- 'z': what MaxLen holds. -/
noncomputable def beginMem (z : Int) : AMem := startMem z 567 567

theorem nameErr (u : TypeId) (h : Tryz.prog.typeName? 3 u = some "*errors.errorString") : u = 567 :=
  typeName_ptr_named (P := Tryz.prog) (nm := "errors.errorString") (tp := 567) (by kernel_rfl) (by kernel_rfl) (by decide) u h

def laidAll : List (String × DataW Unit) := [("unicode/utf8.first", Rows.laid_unicode_utf8_first), ("unicode/utf8.acceptRanges", Rows.laid_unicode_utf8_acceptRanges), ("strconv.ErrSyntax", Rows.laid_strconv_ErrSyntax), ("strconv.ErrRange", Rows.laid_strconv_ErrRange), ("internal/strconv.uint64pow10", Rows.laid_internal_strconv_uint64pow10), ("math/bits.deBruijn32tab", Rows.laid_math_bits_deBruijn32tab), ("math/bits.deBruijn64tab", Rows.laid_math_bits_deBruijn64tab)]

def accZss : List (List Int) := [[128,191],[160,191],[128,159],[144,191],[128,143],[0,0],[0,0],[0,0],[0,0],[0,0],[0,0],[0,0],[0,0],[0,0],[0,0],[0,0]]

theorem acc_at : ∀ q, q < 16 * 2 → accZ[q]? = (accZss[q / 2]?).bind (·[q % 2]?) := by
  intro q hq
  have h : ((List.range 32).all fun q => accZ[q]? == (accZss[q / 2]?).bind (·[q % 2]?)) = true := by kernel_rfl
  simpa using List.all_eq_true.1 h q (List.mem_range.2 hq)

set_option maxRecDepth 100000 in
theorem begin_rel {W : World} (hL : laidMet Tryz.prog laidAll W) (hsh : W.ShapedOpen Tryz.prog) : ∃ z, GlobOk seat (startRen W) ∧ MemRel (startRen W) (beginMem z).next (beginMem z).get W := by
  obtain ⟨z, h0⟩ := rowIs_int (row_of_shape hsh (g := 0) (t := 3) (of_decide_eq_true (by kernel_rfl)) (by kernel_rfl)) (cell_of_shapedOpen_int (zero := #[.int .i64 0]) hsh (of_decide_eq_true (by kernel_rfl)) (by kernel_rfl) rfl (by kernel_rfl) (by kernel_rfl) Tryz.underlying3)
  have h1 := rowIs_tab (k := .u64) (zs := powZ) (row_of_shape hsh (g := 1) (t := 506) (of_decide_eq_true (by kernel_rfl)) (by kernel_rfl)) (by kernel_rfl) (by kernel_rfl) Tryz.underlying506 Tryz.underlying454 (by kernel_rfl) (by kernel_rfl)
    (by rw [show (tabData .u64 powZ : DataW Unit) = Rows.laid_internal_strconv_uint64pow10 by kernel_rfl]; exact Go.Lib.laidMet.reads hL (n := "internal/strconv.uint64pow10") (by simp [laidAll]))
  have h2 := rowIs_tab (k := .u8) (zs := firstZ) (row_of_shape hsh (g := 2) (t := 544) (of_decide_eq_true (by kernel_rfl)) (by kernel_rfl)) (by kernel_rfl) (by kernel_rfl) Tryz.underlying544 Tryz.underlying5 (by kernel_rfl) (by kernel_rfl)
    (by rw [show (tabData .u8 firstZ : DataW Unit) = Rows.laid_unicode_utf8_first by kernel_rfl]; exact Go.Lib.laidMet.reads hL (n := "unicode/utf8.first") (by simp [laidAll]))
  have h3 := rowIs_structs (k := .u8) (zs := accZ) (zss := accZss) (row_of_shape hsh (g := 3) (t := 547) (of_decide_eq_true (by kernel_rfl)) (by kernel_rfl)) (by kernel_rfl) (by kernel_rfl) Tryz.underlying547 Tryz.underlying546
    (fun i f hf => by
      match i, hf with
      | 0, hf => simp at hf; subst hf; exact ⟨Tryz.underlying5, rfl, by kernel_rfl⟩
      | 1, hf => simp at hf; subst hf; exact ⟨Tryz.underlying5, rfl, by kernel_rfl⟩
      | i + 2, hf => simp at hf) (by kernel_rfl) rfl (by decide) acc_at rfl
    (by rw [show (.agg (accZss.map fun zs => .agg (zs.map fun z => .lit (.int .u8 z))) : DataW Unit) = Rows.laid_unicode_utf8_acceptRanges by kernel_rfl]; exact Go.Lib.laidMet.reads hL (n := "unicode/utf8.acceptRanges") (by simp [laidAll]))
  have h4 := rowIs_err (row_of_shape hsh (g := 4) (t := 85) (of_decide_eq_true (by kernel_rfl)) (by kernel_rfl)) (by kernel_rfl) (by kernel_rfl) Tryz.underlying85 (Go.Lib.laidMet.reads hL (n := "strconv.ErrSyntax") (d := Rows.laid_strconv_ErrSyntax) (by simp [laidAll])) nameErr
  have h5 := rowIs_err (row_of_shape hsh (g := 5) (t := 85) (of_decide_eq_true (by kernel_rfl)) (by kernel_rfl)) (by kernel_rfl) (by kernel_rfl) Tryz.underlying85 (Go.Lib.laidMet.reads hL (n := "strconv.ErrRange") (d := Rows.laid_strconv_ErrRange) (by simp [laidAll])) nameErr
  have h6 := rowIs_tab (k := .u8) (zs := db32Z) (row_of_shape hsh (g := 6) (t := 565) (of_decide_eq_true (by kernel_rfl)) (by kernel_rfl)) (by kernel_rfl) (by kernel_rfl) Tryz.underlying565 Tryz.underlying5 (by kernel_rfl) (by kernel_rfl)
    (by rw [show (tabData .u8 db32Z : DataW Unit) = Rows.laid_math_bits_deBruijn32tab by kernel_rfl]; exact Go.Lib.laidMet.reads hL (n := "math/bits.deBruijn32tab") (by simp [laidAll]))
  have h7 := rowIs_tab (k := .u8) (zs := db64Z) (row_of_shape hsh (g := 7) (t := 566) (of_decide_eq_true (by kernel_rfl)) (by kernel_rfl)) (by kernel_rfl) (by kernel_rfl) Tryz.underlying566 Tryz.underlying5 (by kernel_rfl) (by kernel_rfl)
    (by rw [show (tabData .u8 db64Z : DataW Unit) = Rows.laid_math_bits_deBruijn64tab by kernel_rfl]; exact Go.Lib.laidMet.reads hL (n := "math/bits.deBruijn64tab") (by simp [laidAll]))
  exact ⟨z, start_rel h0 h1 h2 h3 h4 h5 h6 h7⟩
end Ev
end Go.Proofs.YtjmapihogpdocaaGreatDoor
