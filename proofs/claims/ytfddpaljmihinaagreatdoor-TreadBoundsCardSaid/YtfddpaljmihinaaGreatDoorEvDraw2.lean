/-
  Regions that draw their order: what the pass in the order of the text has found out about every operation. (Conditions: none.)
-/
import Derived.Test.YtfddpaljmihinaaGreatDoorEvDraw
namespace Go.Proofs.YtfddpaljmihinaaGreatDoor
namespace Ev
open Go

def DS.stages (ds : DS) : List Stage := ds.st :: ds.old

structure Later (ops : Array Oper) (i : Nat) (ds dsE : DS) : Prop where
  t : ∀ u, (∀ j o, i ≤ j → ops[j]? = some o → o.dst ≠ some u) → dsE.t.get u = ds.t.get u
  made : ∃ newer, dsE.made = newer ++ ds.made ∧ ∀ x ∈ newer, i ≤ x.1
  st : ∀ k s, stageOf ds.stages k = some s → stageOf dsE.stages k = some s
  reads : ∀ rd ∈ ds.reads, rd ∈ dsE.reads
  pan : ∀ x, ds.pan = some x → dsE.pan = some x
  fix : ∀ x, ds.pan = some x → dsE.stages = ds.stages
  wm : ∀ b, b < i → dsE.st.wm.testBit b = ds.st.wm.testBit b
  panN : ∀ x, dsE.pan = some x → ds.pan = some x ∨ i ≤ x.1

theorem Later.refl {ops : Array Oper} {i : Nat} {ds : DS} : Later ops i ds ds :=
  ⟨fun _ _ => rfl, ⟨[], rfl, fun x h => by simp at h⟩, fun _ _ h => h, fun _ h => h, fun _ h => h, fun _ _ => rfl, fun _ _ => rfl, fun _ h => .inl h⟩

theorem Later.trans {ops : Array Oper} {i : Nat} {a b c : DS} (h : Later ops i a b) (k : Later ops (i + 1) b c) : Later ops i a c where
  t u hu := (k.t u fun j o hj => hu j o (by omega)).trans (h.t u hu)
  made := by
    obtain ⟨n1, e1, h1⟩ := h.made
    obtain ⟨n2, e2, h2⟩ := k.made
    refine ⟨n2 ++ n1, by rw [e2, e1, List.append_assoc], fun x hx => ?_⟩
    rcases List.mem_append.1 hx with hx | hx
    · have := h2 x hx; omega
    · exact h1 x hx
  st j s e := k.st j s (h.st j s e)
  reads rd e := k.reads rd (h.reads rd e)
  pan x e := k.pan x (h.pan x e)
  fix x e := (k.fix x (h.pan x e)).trans (h.fix x e)
  wm b hb := (k.wm b (by omega)).trans (h.wm b hb)
  panN x e := by
    rcases k.panN x e with e | e
    · exact h.panN x e
    · right; omega

/-- How the stages hang together. -/
def Chain (sz : Nat) (pre : Tree Nat) (s0 : Stage) : List Stage → Prop
  | [] => False
  | [s] => s = s0
  | s' :: s :: rest => (∃ i p, i < sz ∧ pre.get i = some p ∧ s'.abs = Nat.lor p s.abs ∧ s'.wm = Nat.lor (2 ^ i) s.wm ∧ s.wm.testBit i = false) ∧ Chain sz pre s0 (s :: rest)

/-- A block that has been made beside is one that may be written. -/
theorem evA_writable {T : Tab} {t : Tree AVal} {id : Nat} {o : Op} {v : AVal} {k : ABlk} (h : evA T t id o = some (v, k)) : k.writable = true := by
  unfold evA at h
  split at h
  all_goals (repeat' split at h)
  all_goals first
    | (cases h; done)
    | (cases h; rfl)
    | (simp only [Option.map_eq_some_iff] at h; obtain ⟨cs, _, e⟩ := h; cases e; rfl)

structure Inv (ops : Array Oper) (sz : Nat) (pre : Tree Nat) (s0 : Stage) (t0 : Tree AVal) (i : Nat) (ds : DS) : Prop where
  made : ∀ x ∈ ds.made, x.1 < i
  wm : ∀ s ∈ ds.stages, ∀ b, s.wm.testBit b = true → b < i
  chain : Chain sz pre s0 ds.stages
  pan : ∀ x, ds.pan = some x → x.1 < i
  wr : ∀ x ∈ ds.made, x.2.writable = true
  kept : ∀ u, (∀ j o, j < i → ops[j]? = some o → o.dst ≠ some u) → ds.t.get u = t0.get u

def Dst (n : Nat) (o : Oper) (t : Tree AVal) (v : AVal) : Prop := ∀ d, o.dst = some d → d < n ∧ t.get d = some v

inductive Fact (T : Tab) (callF : FuncId → List AVal → AMem → Out AVal) (n : Nat) (ops : Array Oper) (base i : Nat) (o : Oper) (p : Nat) (t : Tree AVal) (ds : DS) : Prop
  | dead (x) (h : ds.pan = some x) (hp : p.testBit x.1 = true) (hs : sideOf ds.made i = none)
  | skip (hw : wantedOp ops t o = some false) (hs : sideOf ds.made i = none) (hm : ds.st.wm.testBit i = false) (hx : ∀ x, ds.pan = some x → x.1 ≠ i) (hd : Dst n o ds.t (.tuple []))
  | p (v) (hw : wantedOp ops t o = some true) (hk : kindOf T o.op = .p) (he : evP T t o.op = some v) (hs : sideOf ds.made i = none) (hm : ds.st.wm.testBit i = false) (hx : ∀ x, ds.pan = some x → x.1 ≠ i) (hd : Dst n o ds.t v)
  | r (v) (hw : wantedOp ops t o = some true) (hk : kindOf T o.op = .r) (kc s) (hst : stageOf ds.stages kc = some s)
      (he : evR T t (view base s.m (Nat.testBit (diff p s.abs)) ds.made).get o.op = some v) (hr : ⟨i, p, o.op, t, v, kc⟩ ∈ ds.reads) (hs : sideOf ds.made i = none) (hm : ds.st.wm.testBit i = false) (hx : ∀ x, ds.pan = some x → x.1 ≠ i) (hd : Dst n o ds.t v)
  | a (v k) (hw : wantedOp ops t o = some true) (hk : kindOf T o.op = .a) (he : evA T t (base + i) o.op = some (v, k)) (hs : sideOf ds.made i = some k) (hm : ds.st.wm.testBit i = false) (hx : ∀ x, ds.pan = some x → x.1 ≠ i) (hd : Dst n o ds.t v)
  | w (v m' k s) (hw : wantedOp ops t o = some true) (hk : kindOf T o.op = .w) (hst : stageOf ds.stages k = some s) (hp : ∀ b, s.wm.testBit b = true → p.testBit b = true)
      (he : evOne T callF t (view base s.m (Nat.testBit (diff p s.abs)) ds.made) o.op = .ok v m') (hst' : stageOf ds.stages (k + 1) = some ⟨m', Nat.lor p s.abs, Nat.lor (2 ^ i) s.wm⟩)
      (hs : sideOf ds.made i = none) (hx : ∀ x, ds.pan = some x → x.1 ≠ i) (hd : Dst n o ds.t v)
  | wp (v m') (hw : wantedOp ops t o = some true) (hk : kindOf T o.op = .w) (hp : ∀ b, ds.st.wm.testBit b = true → p.testBit b = true)
      (he : evOne T callF t (view base ds.st.m (Nat.testBit (diff p ds.st.abs)) ds.made) o.op = .pan v m') (hpan : ds.pan = some (i, v, m')) (hs : sideOf ds.made i = none)

/-- An operation finds in another tree what it found in the first. -/
def Looks (ops : Array Oper) (o : Oper) (t t' : Tree AVal) : Prop := ∀ u ∈ o.looksAt ops, t'.get u = t.get u

theorem Looks.agree {T : Tab} {ops : Array Oper} {o : Oper} {t t' : Tree AVal} (h : Looks ops o t t') : Agree T t t' o.op.operands := by
  intro x hx
  cases x with
  | tmp u =>
    have := h u (List.mem_append_left _ (List.mem_filterMap.2 ⟨.tmp u, by simpa using hx, rfl⟩))
    simp only [ev, this]
  | _ => rfl

theorem Looks.wanted {ops : Array Oper} {o : Oper} {t t' : Tree AVal} (h : Looks ops o t t') : wantedOp ops t' o = wantedOp ops t o := by
  unfold wantedOp
  cases hg : o.guard with
  | none => rfl
  | some g =>
    obtain ⟨j, want⟩ := g
    simp only
    cases hj : ops[j]? with
    | none => rfl
    | some oj =>
      simp only
      cases hd : oj.dst with
      | none => rfl
      | some d =>
        simp only
        rw [h d (List.mem_append_right _ (by simp [hg, hj, hd]))]

section
variable {T : Tab} {callF : FuncId → List AVal → AMem → Out AVal} {n : Nat} {ops : Array Oper} {base : Nat} {pre who : Tree Nat} {s0 : Stage} {t0 : Tree AVal}

theorem putDst_get {t t' : Tree AVal} {d : Option Nat} {v : AVal} (h : putDst n t d v = some t') :
    (∀ u, d ≠ some u → t'.get u = t.get u) ∧ ∀ u, d = some u → u < n ∧ t'.get u = some v := by
  unfold putDst at h
  split at h
  · cases h
    exact ⟨fun _ _ => rfl, fun u e => by cases e⟩
  · split at h
    · rename_i d hb
      cases h
      refine ⟨fun u hu => ?_, fun u e => ?_⟩
      · rw [Tree.get_put, if_neg (fun e => hu (by rw [e]))]
      · cases e
        rw [Tree.get_put, if_pos rfl]
        exact ⟨Nat.lt_of_succ_le (Nat.le_of_ble_eq_true hb), rfl⟩
    · cases h

/-- The frame of a step: a put, and perhaps something more. -/
theorem later_put {i : Nat} {o : Oper} {ds ds' : DS} {v : AVal} (ho : ops[i]? = some o) (ht : putDst n ds.t o.dst v = some ds'.t)
    (hm : ∃ newer, ds'.made = newer ++ ds.made ∧ ∀ x ∈ newer, i ≤ x.1) (hst : ∀ k s, stageOf ds.stages k = some s → stageOf ds'.stages k = some s)
    (hr : ∀ rd ∈ ds.reads, rd ∈ ds'.reads) (hp : ds'.pan = ds.pan) (hfix : ds.pan = none ∨ ds'.stages = ds.stages) (hwm : ∀ b, b < i → ds'.st.wm.testBit b = ds.st.wm.testBit b) : Later ops i ds ds' :=
  ⟨fun u hu => (putDst_get ht).1 u (hu i o (Nat.le_refl _) ho), hm, hst, hr, fun x e => by rw [hp]; exact e, fun x e => by
    rcases hfix with h | h
    · rw [h] at e; cases e
    · exact h, hwm, fun x e => .inl (hp ▸ e)⟩

structure Stat (ops : Array Oper) (pre who : Tree Nat) : Prop where
  pre : ∀ i o, ops[i]? = some o → PreAt pre i o
  who : ∀ i o d, ops[i]? = some o → o.dst = some d → who.get d = some i

/-- The tree that an operation is met with: what came before it is in it, of the rest it is the tree of the start. -/
def Match (ops : Array Oper) (o : Oper) (p : Nat) (t0 t tE : Tree AVal) : Prop :=
  ∀ u ∈ o.looksAt ops, (∀ j oj, ops[j]? = some oj → oj.dst = some u → p.testBit j = true → t.get u = tE.get u) ∧
    ((∀ j oj, ops[j]? = some oj → oj.dst = some u → p.testBit j = false) → t.get u = t0.get u)

def After (T : Tab) (callF : FuncId → List AVal → AMem → Out AVal) (n : Nat) (ops : Array Oper) (base : Nat) (i : Nat) (o : Oper) (p : Nat) (t0 : Tree AVal) (ds' : DS) : Prop :=
  ∀ dsE, Later ops (i + 1) ds' dsE → ∃ t, Match ops o p t0 t dsE.t ∧ Fact T callF n ops base i o p t dsE

def Sees (ops : Array Oper) (pre : Tree Nat) (i : Nat) (o : Oper) (p : Nat) : Prop :=
  ∀ u ∈ o.looksAt ops, ∀ j oj, ops[j]? = some oj → oj.dst = some u → p.testBit j = true ∨ ∃ pj, pre.get j = some pj ∧ pj.testBit i = true

theorem drawStep_ok (hS : Stat ops pre who) {i : Nat} {o : Oper} {ds ds' : DS} (ho : ops[i]? = some o) (hi : Inv ops ops.size pre s0 t0 i ds) (h : drawStep T callF n ops base pre who i o ds = .ok ds') :
    Later ops i ds ds' ∧ Inv ops ops.size pre s0 t0 (i + 1) ds' ∧ ∃ p, pre.get i = some p ∧ Sees ops pre i o p ∧ After T callF n ops base i o p t0 ds' := by
  have hisz : i < ops.size := (Array.getElem?_eq_some_iff.1 ho).1
  obtain ⟨p0, hp0, hbits, _⟩ := hS.pre i o ho
  have keep0 : ∀ u, (∀ j o, j < i + 1 → ops[j]? = some o → o.dst ≠ some u) → ds.t.get u = t0.get u := fun u hu => hi.kept u fun j o hj => hu j o (by omega)
  have keep1 : ∀ {t' : Tree AVal} {v : AVal}, putDst n ds.t o.dst v = some t' → ∀ u, (∀ j o, j < i + 1 → ops[j]? = some o → o.dst ≠ some u) → t'.get u = t0.get u := by
    intro t' v hput u hu
    rw [(putDst_get hput).1 u (hu i o (by omega) ho)]
    exact keep0 u hu
  have invM : ∀ x ∈ ds.made, x.1 < i + 1 := fun x hx => Nat.lt_succ_of_lt (hi.made x hx)
  have invW : ∀ s ∈ ds.stages, ∀ b, s.wm.testBit b = true → b < i + 1 := fun s hs b hb => Nat.lt_succ_of_lt (hi.wm s hs b hb)
  have invP : ∀ x, ds.pan = some x → x.1 < i + 1 := fun x hx => Nat.lt_succ_of_lt (hi.pan x hx)
  unfold drawStep at h
  rw [hp0] at h
  simp only at h
  split at h
  · cases h
  · rename_i hlooks
    have sees : Sees ops pre i o p0 := fun u hu j oj hj hd => looksOk_spec hlooks u hu j (hS.who j oj u hj hd)
    have mtch : ∀ {dsx dsE : DS}, Later ops (i + 1) dsx dsE → (∀ u, o.dst ≠ some u → dsx.t.get u = ds.t.get u) → Match ops o p0 t0 ds.t dsE.t := by
      intro dsx dsE hl hput u hu
      refine ⟨fun j oj hj hd hb => ?_, fun hno => ?_⟩
      · have hji := (hbits j hb).1
        have uniq : ∀ j' oj', ops[j']? = some oj' → oj'.dst = some u → j' = j := by
          intro j' oj' hj' hd'
          have e1 := hS.who j oj u hj hd
          have e2 := hS.who j' oj' u hj' hd'
          rw [e1] at e2
          cases e2
          rfl
        rw [hl.t u fun j' oj' hj' hoj' hd' => by have := uniq j' oj' hoj' hd'; omega]
        exact (hput u fun hd' => by have := uniq i o ho hd'; omega).symm
      · refine hi.kept u fun j oj hj hoj hd => ?_
        rcases sees u hu j oj hoj hd with hb | ⟨pj, hpj, hb⟩
        · rw [hno j oj hoj hd] at hb; cases hb
        · obtain ⟨q, hq, hbq, _⟩ := hS.pre j oj hoj
          rw [hpj] at hq
          cases hq
          have := (hbq i hb).1
          omega
    have put : ∀ {t' : Tree AVal} {v : AVal}, putDst n ds.t o.dst v = some t' → ∀ u, o.dst ≠ some u → t'.get u = ds.t.get u := fun hput => (putDst_get hput).1
    have dst : ∀ {t' : Tree AVal} {dsx dsE : DS} {v : AVal}, putDst n ds.t o.dst v = some t' → dsx.t = t' → Later ops (i + 1) dsx dsE → Dst n o dsE.t v := by
      intro t' dsx dsE v hput hx hl d hd
      obtain ⟨h1, h2⟩ := (putDst_get hput).2 d hd
      refine ⟨h1, ?_⟩
      rw [hl.t d fun j oj hj hoj hd' => ?_, hx]
      · exact h2
      · have e1 := hS.who i o d ho hd
        have e2 := hS.who j oj d hoj hd'
        rw [e1] at e2
        cases e2
        omega
    have side : ∀ {dsx dsE : DS}, Later ops (i + 1) dsx dsE → dsx.made = ds.made → sideOf dsE.made i = none := by
      intro dsx dsE hl hx
      obtain ⟨newer, e, hn⟩ := hl.made
      refine sideOf_none _ _ fun x hm => ?_
      rw [e, hx] at hm
      rcases List.mem_append.1 hm with hm | hm
      · have := hn x hm; omega
      · have := hi.made x hm; omega
    have views : ∀ {dsx dsE : DS} (m : AMem) (ab : Nat), Later ops (i + 1) dsx dsE → dsx.made = ds.made → view base m (Nat.testBit (diff p0 ab)) dsE.made = view base m (Nat.testBit (diff p0 ab)) ds.made := by
      intro dsx dsE m ab hl hx
      obtain ⟨newer, e, hn⟩ := hl.made
      rw [e, hx]
      refine view_newer base m _ _ newer fun x hm => ?_
      rw [diff_testBit]
      cases hb : Nat.testBit p0 x.1 with
      | false => rfl
      | true => have := (hbits _ hb).1; have := hn x hm; omega
    have nowm : ∀ {dsx dsE : DS}, Later ops (i + 1) dsx dsE → dsx.st = ds.st → dsE.st.wm.testBit i = false := by
      intro dsx dsE hl hx
      rw [hl.wm i (Nat.lt_succ_self _), hx]
      cases hb : Nat.testBit ds.st.wm i with
      | false => rfl
      | true => exact absurd (hi.wm ds.st (by simp [DS.stages]) i hb) (Nat.lt_irrefl _)
    have nopan : ∀ {dsx dsE : DS}, Later ops (i + 1) dsx dsE → dsx.pan = ds.pan → ∀ x, dsE.pan = some x → x.1 ≠ i := by
      intro dsx dsE hl hx x e
      rcases hl.panN x e with e | e
      · rw [hx] at e; have := hi.pan x e; omega
      · omega
    have same : ∃ newer, ds.made = newer ++ ds.made ∧ ∀ x ∈ newer, i ≤ x.1 := ⟨[], rfl, fun x h => by simp at h⟩
    split at h
    · rename_i hdead
      cases h
      refine ⟨.refl, ⟨invM, invW, hi.chain, invP, hi.wr, keep0⟩, p0, hp0, sees, fun dsE hl => ⟨ds.t, mtch hl (fun _ _ => rfl), ?_⟩⟩
      unfold deadBy at hdead
      split at hdead
      · cases hdead
      · rename_i x hx
        exact .dead x (hl.pan x hx) hdead (side hl rfl)
    · split at h
      · cases h
      · rename_i hw
        split at h
        · cases h
        · rename_i t' hput
          cases h
          refine ⟨later_put (v := .tuple []) ho hput same (fun _ _ e => e) (fun _ e => e) rfl (.inr rfl) (fun _ _ => rfl), ⟨invM, invW, hi.chain, invP, hi.wr, keep1 hput⟩, p0, hp0, sees, fun dsE hl => ⟨ds.t, mtch hl (put hput), ?_⟩⟩
          exact .skip hw (side hl rfl) (nowm hl rfl) (nopan hl rfl) (dst hput rfl hl)
      · rename_i hw
        unfold drawWant at h
        split at h
        · rename_i hk
          split at h
          · cases h
          · rename_i v he
            split at h
            · cases h
            · rename_i t' hput
              cases h
              refine ⟨later_put (v := v) ho hput same (fun _ _ e => e) (fun _ e => e) rfl (.inr rfl) (fun _ _ => rfl), ⟨invM, invW, hi.chain, invP, hi.wr, keep1 hput⟩, p0, hp0, sees, fun dsE hl => ⟨ds.t, mtch hl (put hput), ?_⟩⟩
              exact .p v hw hk he (side hl rfl) (nowm hl rfl) (nopan hl rfl) (dst hput rfl hl)
        · rename_i hk
          split at h
          · cases h
          · rename_i v he
            split at h
            · cases h
            · rename_i t' hput
              cases h
              refine ⟨later_put (v := v) ho hput same (fun _ _ e => e) (fun _ e => by simp [e]) rfl (.inr rfl) (fun _ _ => rfl), ⟨invM, invW, hi.chain, invP, hi.wr, keep1 hput⟩, p0, hp0, sees, fun dsE hl => ⟨ds.t, mtch hl (put hput), ?_⟩⟩
              refine .r v hw hk ds.old.length ds.st (hl.st _ _ (by simp [DS.stages, stageOf])) ?_ (hl.reads _ (by simp)) (side hl rfl) (nowm hl rfl) (nopan hl rfl) (dst hput rfl hl)
              rw [views _ _ hl rfl]
              exact he
        · rename_i hk
          split at h
          · cases h
          · rename_i v b he
            split at h
            · cases h
            · rename_i t' hput
              cases h
              refine ⟨later_put (v := v) ho hput ⟨[(i, b)], rfl, fun x hx => by simp at hx; rw [hx]; exact Nat.le_refl _⟩ (fun _ _ e => e) (fun _ e => e) rfl (.inr rfl) (fun _ _ => rfl),
                ⟨fun x hx => by
                  rcases List.mem_cons.1 hx with rfl | hx
                  · exact Nat.lt_succ_self _
                  · exact invM x hx, invW, hi.chain, invP, fun x hx => by
                  rcases List.mem_cons.1 hx with rfl | hx
                  · exact evA_writable he
                  · exact hi.wr x hx, keep1 hput⟩, p0, hp0, sees, fun dsE hl => ⟨ds.t, mtch hl (put hput), ?_⟩⟩
              refine .a v b hw hk he ?_ (nowm hl rfl) (nopan hl rfl) (dst hput rfl hl)
              obtain ⟨newer, e, hn⟩ := hl.made
              rw [e, sideOf_newer _ _ newer fun x hx => by have := hn x hx; omega]
              simp [sideOf]
        · rename_i hk
          split at h
          · cases h
          · rename_i hpan
            split at h
            · cases h
            · rename_i hwm
              have hp : ∀ b, ds.st.wm.testBit b = true → p0.testBit b = true := by
                intro b hb
                have e := Nat.eq_of_beq_eq_true hwm
                rw [← e, land_testBit] at hb
                simp at hb
                exact hb.1
              split at h
              · rename_i v m' he
                split at h
                · cases h
                · rename_i t' hput
                  cases h
                  refine ⟨later_put (v := v) ho hput same (fun _ _ e => stageOf_cons e) (fun _ e => e) rfl (.inl hpan) (fun b hb => by show (Nat.lor (2 ^ i) ds.st.wm).testBit b = _; rw [lor_testBit, two_testBit, decide_eq_false (by omega)]; rfl), ⟨invM, ?_, ?_, invP, hi.wr, keep1 hput⟩, p0, hp0, sees, fun dsE hl => ⟨ds.t, mtch hl (put hput), ?_⟩⟩
                  · intro s hs b hb
                    rcases List.mem_cons.1 hs with rfl | hs
                    · rw [lor_testBit, two_testBit] at hb
                      simp at hb
                      rcases hb with rfl | hb
                      · exact Nat.lt_succ_self _
                      · exact invW ds.st (by simp [DS.stages]) b hb
                    · exact invW s hs b hb
                  · refine ⟨⟨i, p0, hisz, hp0, rfl, rfl, ?_⟩, hi.chain⟩
                    cases hb : Nat.testBit ds.st.wm i with
                    | false => rfl
                    | true => exact absurd (hi.wm ds.st (by simp [DS.stages]) i hb) (Nat.lt_irrefl _)
                  · refine .w v m' ds.old.length ds.st hw hk (hl.st _ _ ?_) hp ?_ (hl.st _ _ ?_) (side hl rfl) (nopan hl rfl) (dst hput rfl hl)
                    · simp [DS.stages, stageOf]
                    · rw [views _ _ hl rfl]
                      exact he
                    · simp [DS.stages, stageOf]
              · rename_i v m' he
                cases h
                refine ⟨⟨fun _ _ => rfl, same, fun _ _ e => e, fun _ e => e, fun x e => ?_, fun x e => ?_, fun _ _ => rfl, fun x e => by cases e; exact .inr (Nat.le_refl _)⟩, ⟨invM, invW, hi.chain, fun x hx => ?_, hi.wr, keep0⟩, p0, hp0, sees, fun dsE hl => ⟨ds.t, mtch hl (fun _ _ => rfl), ?_⟩⟩
                · rw [hpan] at e; cases e
                · rw [hpan] at e; cases e
                · cases hx; exact Nat.lt_succ_self _
                · have hst : dsE.stages = ds.stages := hl.fix _ rfl
                  have hst2 : dsE.st = ds.st := by
                    have := congrArg (fun l => l.head?) hst
                    simpa [DS.stages] using this
                  refine .wp v m' hw hk (by rw [hst2]; exact hp) ?_ (hl.pan _ rfl) (side hl rfl)
                  rw [hst2, views _ _ hl rfl]
                  exact he
              · cases h
              · cases h

theorem drawOps_ok (hS : Stat ops pre who) : ∀ (rest : List Oper) (i : Nat) (ds dsE : DS), ops.toList.drop i = rest → Inv ops ops.size pre s0 t0 i ds → drawOps T callF n ops base pre who rest i ds = .ok dsE →
    Later ops i ds dsE ∧ Inv ops ops.size pre s0 t0 (i + rest.length) dsE ∧ ∀ j o, i ≤ j → ops[j]? = some o → ∃ p, pre.get j = some p ∧ Sees ops pre j o p ∧ ∃ t, Match ops o p t0 t dsE.t ∧ Fact T callF n ops base j o p t dsE
  | [], i, ds, dsE, hk, hi, h => by
    simp only [drawOps] at h
    cases h
    refine ⟨.refl, hi, fun j o hj ho => ?_⟩
    have : ops.toList.length ≤ i := by
      rcases Nat.lt_or_ge i ops.toList.length with c | c
      · have := congrArg List.length hk
        rw [List.length_drop] at this
        simp only [List.length_nil] at this
        omega
      · exact c
    have := (Array.getElem?_eq_some_iff.1 ho).1
    simp at *
    omega
  | o :: rest, i, ds, dsE, hk, hi, h => by
    have ho : ops[i]? = some o := by
      rw [← Array.getElem?_toList]
      have := congrArg (fun l => l[0]?) hk
      simpa [List.getElem?_drop] using this
    have hk2 : ops.toList.drop (i + 1) = rest := by
      have := congrArg (fun l => l.drop 1) hk
      simpa [List.drop_drop] using this
    simp only [drawOps] at h
    split at h
    · rename_i ds' hs
      obtain ⟨l1, i1, p, hp, hsee, ha⟩ := drawStep_ok hS ho hi hs
      obtain ⟨l2, i2, f2⟩ := drawOps_ok hS rest (i + 1) ds' dsE hk2 i1 h
      refine ⟨l1.trans l2, by rw [List.length_cons]; rw [show i + (rest.length + 1) = i + 1 + rest.length by omega]; exact i2, fun j oj hj hoj => ?_⟩
      by_cases e : j = i
      · subst e
        rw [ho] at hoj
        cases hoj
        exact ⟨p, hp, hsee, ha dsE l2⟩
      · exact f2 j oj (by omega) hoj
    · cases h
end
end Ev
end Go.Proofs.YtfddpaljmihinaaGreatDoor
