/-
  Regions that draw their order: every operation in its turn, the region, and with it the functions. (Conditions: the tables tell of the program what is so; the callees do what they are said to do; the program mixes its orders.)
-/
import Derived.Test.YtfddpaljmihinaaGreatDoorEvDraw4
import Derived.Test.YtfddpaljmihinaaGreatDoorEvCode
namespace Go.Proofs.YtfddpaljmihinaaGreatDoor
namespace Ev
open Go
variable {D : Keep}

section
variable {T : Tab} {P : Program} {callF : FuncId → List AVal → AMem → Out AVal} {n : Nat} {ops : Array Oper} {base : Nat} {pre who : Tree Nat} {s0 : Stage} {t0 : Tree AVal} {ds : DS}
  {r0 : Ren} {g0 : Nat → Option ABlk} {w0 : World} {S : Nat → Bool} {k : Nat} {s : Stage} {r : Ren} {a : Act} {w : World}

theorem Sch.make (hS : Stat ops pre who) (h : Sch D T n ops pre t0 base ds r0 g0 w0 S k s r a w) {i : Nat} {o : Oper} {p : Nat} (ho : ops[i]? = some o) (hpi : pre.get i = some p) (hp : ∀ b, p.testBit b = true → S b = true) (hSi : S i = false)
    {v : AVal} {v' : Value} {x : ABlk} {B : Blk} {w' : World} (hmade : Made r (base + i) w x v v' w' B) (hd : Dst n o ds.t v) (hs : sideOf ds.made i = some x) (hm : ds.st.wm.testBit i = false) (hx : ∀ x, ds.pan = some x → x.1 ≠ i) :
    Sch D T n ops pre t0 base ds r0 g0 w0 (with_ S i) k s (r.ext (base + i) B) (a.put o.dst v') w' := by
  have hisz := (Array.getElem?_eq_some_iff.1 ho).1
  have hid := h.names i hisz hSi
  have hab : s.abs.testBit i = false := by
    cases e : s.abs.testBit i with
    | false => rfl
    | true => rw [h.abs i e] at hSi; cases hSi
  have hbig := h.big
  refine h.after hS ho hpi hp h.stage (Ren.ext_le hid) hmade.val hd (fun b hb => with_old (h.wm b hb)) (fun b hb hE => ?_) (fun b hb => with_old (h.abs b hb)) hx (fun q _ hq e => ?_) h.clear h.big ?_
  · rcases with_true hb with e | e
    · subst e; rw [hm] at hE; cases hE
    · exact h.wmE b e hE
  · simp only [Ren.ext]
    rw [if_neg (by omega)]
    exact e
  · have hg : (view base s.m (fun q => S q && !s.abs.testBit q) ds.made).get (base + i) = none := by
      cases e : (view base s.m (fun q => S q && !s.abs.testBit q) ds.made).get (base + i) with
      | none => rfl
      | some y =>
        obtain ⟨B', hB', _⟩ := h.step.mem.blk _ _ e
        rw [hid] at hB'
        cases hB'
    have st1 := hmade.beside (base := base) h.step.mem hid hg (by omega) (by omega)
    refine (h.step.trans' st1 (Nat.le_refl _)).trans' (nk := s.m.next) (Step.sub st1.mem fun b y hb => ?_) (by omega)
    rcases view_cases hb with ⟨q, e, hf, hsd⟩ | ⟨hb, hno⟩
    · simp only [upd]
      by_cases c : q = i
      · subst c
        rw [if_pos e]
        rw [hs] at hsd
        exact hsd
      · rw [if_neg (by omega), e]
        refine view_side ?_ hsd
        simp only [with_ne c] at hf
        exact hf
    · simp only [upd]
      by_cases c : b = base + i
      · have := hno i c (by simp [with_self, hab])
        rw [hs] at this
        cases this
      · rw [if_neg c, view_main fun q e hf => hno q e ?_]
        · exact hb
        · simp only [Bool.and_eq_true] at hf ⊢
          exact ⟨with_old hf.1, hf.2⟩

theorem Sch.write (hS : Stat ops pre who) (h : Sch D T n ops pre t0 base ds r0 g0 w0 S k s r a w) (hmd : ∀ q x, sideOf ds.made q = some x → q < ops.size ∧ x.writable = true)
    {i : Nat} {o : Oper} {p : Nat} (ho : ops[i]? = some o) (hpi : pre.get i = some p) (hp : ∀ b, p.testBit b = true → S b = true)
    {v : AVal} {v' : Value} {m' : AMem} {r' : Ren} {w' : World} (hst' : stageOf ds.stages (k + 1) = some ⟨m', Nat.lor p s.abs, Nat.lor (2 ^ i) s.wm⟩) (hv : VRel r' v v') (hd : Dst n o ds.t v)
    (hs : sideOf ds.made i = none) (hx : ∀ x, ds.pan = some x → x.1 ≠ i)
    (hstep : Step r s.m.next (view base s.m (Nat.testBit (diff p s.abs)) ds.made).get w r' m'.next m'.get w') :
    Sch D T n ops pre t0 base ds r0 g0 w0 (with_ S i) (k + 1) ⟨m', Nat.lor p s.abs, Nat.lor (2 ^ i) s.wm⟩ r' (a.put o.dst v') w' := by
  have hbig := h.big
  have hm := h.step.mem
  have hsees := h.sees hp
  have hnew : ∀ q B, q < ops.size → r'.at_ (base + q) = some B → r.at_ (base + q) = some B := by
    intro q B hq e
    rcases hstep.new _ _ e with e1 | e1
    · exact e1
    · omega
  -- what lies beside is not seen
  have out : ∀ q x, sideOf ds.made q = some x → s.abs.testBit q = false → p.testBit q = false → (view base s.m (Nat.testBit (diff p s.abs)) ds.made).get (base + q) = none := by
    intro q x hsd hab hpq
    cases e : (view base s.m (Nat.testBit (diff p s.abs)) ds.made).get (base + q) with
    | none => rfl
    | some y =>
      rcases view_cases e with ⟨q', e', hf, _⟩ | ⟨e', _⟩
      · have : q' = q := by omega
        subst this
        rw [diff_testBit, hpq] at hf
        cases hf
      · rw [h.clear q x hsd hab] at e'
        cases e'
  refine h.after hS ho hpi hp hst' hstep.le hv hd (fun b hb => ?_) (fun b hb hE => ?_) (fun b hb => ?_) hx (fun q hq _ e => ?_) (fun q x hsd hab => ?_) (Nat.le_trans hbig hstep.next) ?_
  · rw [lor_testBit, two_testBit] at hb
    simp at hb
    rcases hb with e | e
    · subst e; exact with_self S i
    · exact with_old (h.wm b e)
  · rw [lor_testBit, two_testBit]
    rcases with_true hb with e | e
    · subst e; simp
    · rw [h.wmE b e hE]; simp
  · rw [lor_testBit] at hb
    simp at hb
    rcases hb with e | e
    · exact with_old (hp b e)
    · exact with_old (h.abs b e)
  · cases e1 : r'.at_ (base + q) with
    | none => rfl
    | some B => rw [hnew q B hq e1] at e; cases e
  · obtain ⟨hq, hwr⟩ := hmd q x hsd
    have hab' : p.testBit q = false ∧ s.abs.testBit q = false := by
      have : Nat.testBit (Nat.lor p s.abs) q = false := hab
      rw [lor_testBit] at this
      simpa using this
    show m'.get (base + q) = none
    cases e : m'.get (base + q) with
    | none => rfl
    | some y =>
      exfalso
      obtain ⟨B, hB, _⟩ := hstep.mem.blk _ _ e
      have hB0 := hnew q B hq hB
      have hSq : S q = true := by
        cases c : S q with
        | true => rfl
        | false => rw [h.names q hq c] at hB0; cases hB0
      have hgq : (view base s.m (fun q => S q && !s.abs.testBit q) ds.made).get (base + q) = some x := view_side (by simp [hSq, hab'.2]) hsd
      rcases hstep.own _ _ _ e hB with z | ⟨b0, k0, B0, z1, z2, z3, z4⟩
      · have := hm.inw _ _ hB0
        omega
      · have := hm.inj _ _ _ _ _ _ hgq (hsees _ _ z1) hB0 z2 hwr z3.symm
        rw [← this, out q x hsd hab'.2 hab'.1] at z1
        cases z1
  · refine h.step.trans' (Step.frame hm hsees hstep fun b y hb => ?_) (by omega)
    rcases view_cases hb with ⟨q, e, hf, hsd⟩ | ⟨hb, _⟩
    · have hf' : with_ S i q = true ∧ p.testBit q = false ∧ s.abs.testBit q = false := by
        simp only [Bool.and_eq_true, Bool.not_eq_true', lor_testBit, Bool.or_eq_false_iff] at hf
        exact ⟨hf.1, hf.2.1, hf.2.2⟩
      have hqi : q ≠ i := by intro c; rw [c, hs] at hsd; cases hsd
      rw [with_ne hqi] at hf'
      right
      rw [e]
      exact ⟨out q y hsd hf'.2.2 hf'.2.1, view_side (by simp [hf'.1, hf'.2.2]) hsd⟩
    · exact .inl hb

theorem sched_op (hT : TabOk T P) (hcall : ∀ f, CallOk T P f (callF f)) (hS : Stat ops pre who) (hold : ∀ u, (∀ (j : Nat) (o : Oper), ops[j]? = some o → o.dst ≠ some u) → ds.t.get u = t0.get u) (hC : Chain ops.size pre s0 ds.stages) (hR : stagesOk T base ds.made ds.st.wm ds.reads ds.stages = true)
    (hmd : ∀ q x, sideOf ds.made q = some x → q < ops.size ∧ x.writable = true) (h : Sch D T n ops pre t0 base ds r0 g0 w0 S k s r a w)
    {i : Nat} {o : Oper} {p : Nat} (ho : ops[i]? = some o) (hpi : pre.get i = some p) (hsee : Sees ops pre i o p) (hSi : S i = false) (hp : ∀ b, p.testBit b = true → S b = true) {t : Tree AVal} (hmt : Match ops o p t0 t ds.t) (hF : Fact T callF n ops base i o p t ds)
    {K : Act → World → Prop} {Q : Exit → Act → World → Prop} (hK : ∀ k' s' r' a' w', Sch D T n ops pre t0 base ds r0 g0 w0 (with_ S i) k' s' r' a' w' → K a' w')
    (hQ : ∀ x, ds.pan = some x → ∀ r' a' v' w', D.calm a' → VRel r' x.2.1 v' → Step r0 base g0 w0 r' x.2.2.next x.2.2.get w' → Q (.panic [{ v := v', recovered := false }]) a' w') :
    wpOp P ops Q i K a w := by
  obtain ⟨t', ht, hl⟩ := h.tree hS hold hSi hsee hmt hp
  have wanted : ∀ b, wantedOp ops t o = some b → Region.wanted o (yielded ops a.tmps) = b := fun b e => wanted_ok ht (hl.wanted.trans e)
  have hmm : ∀ p', (∀ b, p'.testBit b = true → S b = true) → MemRel r (view base s.m (Nat.testBit (diff p' s.abs)) ds.made).next (view base s.m (Nat.testBit (diff p' s.abs)) ds.made).get w := by
    intro p' hp'
    rw [view_next]
    exact h.step.mem.sub (h.sees hp')
  unfold wpOp
  simp only [ho]
  cases hF with
  | dead x hx hpx hs =>
    have := hp x.1 hpx
    rw [h.pan x hx] at this
    cases this
  | skip hw hs hm hx hd =>
    rw [wanted _ hw]
    simp only [Bool.false_eq_true, if_false]
    exact hK _ _ _ _ _ (h.quiet hS ho hpi hp (undef_rel r) hd hs hm hx)
  | p v hw hk he hs hm hx hd =>
    rw [wanted _ hw]
    simp only [if_true]
    left
    obtain ⟨v', e, hr⟩ := evP_ok hT w h.glob ht ((evP_congr hl.agree).symm.trans he)
    unfold Oper.wp
    rw [e]
    exact hK _ _ _ _ _ (h.quiet hS ho hpi hp hr hd hs hm hx)
  | r v hw hk kc s' hst he hr hs hm hx hd =>
    rw [wanted _ hw]
    simp only [if_true]
    left
    have he2 : evR T t (view base s.m (Nat.testBit (diff p s.abs)) ds.made).get o.op = some v := by
      by_cases c : k = kc
      · subst c
        rw [h.stage] at hst
        cases hst
        exact he
      · have := readsOk_spec (stagesOk_spec hR k s h.stage) _ hr
        refine readOk_spec this c ?_ ?_
        · cases e : s.abs.testBit i with
          | false => rfl
          | true => rw [h.abs i e] at hSi; cases hSi
        · exact fun b hb hE => h.wmE b (hp b hb) hE
    obtain ⟨v', e, hv⟩ := evR_ok hT h.glob ht (h.step.mem) (evR_mono (h.sees hp) ((evR_congr hl.agree).symm.trans he2))
    unfold Oper.wp
    rw [e]
    exact hK _ _ _ _ _ (h.quiet hS ho hpi hp hv hd hs hm hx)
  | a v x hw hk he hs hm hx hd =>
    rw [wanted _ hw]
    simp only [if_true]
    left
    have hid := h.names i (Array.getElem?_eq_some_iff.1 ho).1 hSi
    obtain ⟨v', w', B, e, hmade⟩ := evA_ok hT (w := w) hid h.glob ht ((evA_congr hl.agree).symm.trans he)
    unfold Oper.wp
    rw [e]
    exact hK _ _ _ _ _ (h.make hS ho hpi hp hSi hmade hd hs hm hx)
  | w v m' k' s' hw hk hst hpw he hst' hs hx hd =>
    rw [wanted _ hw]
    simp only [if_true]
    left
    obtain ⟨rfl, rfl⟩ := h.at_stage hC hst (fun b hb => hp b (hpw b hb)) fun hlt => by
      have hd : stageOf ds.stages (k' + 1 + (k - (k' + 1))) = some s := by rw [show k' + 1 + (k - (k' + 1)) = k by omega]; exact h.stage
      have := hC.mono hst' _ hd i (by show Nat.testBit (Nat.lor (2 ^ i) s'.wm) i = true; rw [lor_testBit, two_testBit]; simp)
      rw [h.wm i this] at hSi
      cases hSi
    refine evOne_ok hT hcall h.glob ht (hmm p hp) ?_
    rw [← evOne_congr hl.agree, he]
    intro r' v' w' hv hg' hst1
    rw [view_next] at hst1
    exact hK _ _ _ _ _ (h.write hS hmd ho hpi hp hst' hv hd hs hx hst1)
  | wp v m' hw hk hpw he hpan hs =>
    rw [wanted _ hw]
    simp only [if_true]
    left
    have hlast : stageOf ds.stages ds.old.length = some ds.st := by simp [DS.stages, stageOf]
    obtain ⟨_, e2⟩ := h.at_stage hC hlast (fun b hb => hp b (hpw b hb)) fun hlt => by
      have := stageOf_lt h.stage
      simp [DS.stages] at this
      omega
    rw [e2] at he
    refine evOne_ok hT hcall h.glob ht (hmm p hp) ?_
    rw [← evOne_congr hl.agree, he]
    intro r' v' w' hv hst1
    rw [view_next] at hst1
    have hsub := Step.sub h.step.mem (h.sees hp)
    have hbig := h.big
    exact hQ _ hpan r' a v' w' h.calm hv ((h.step.trans' hsub (by omega)).trans' hst1 (by omega))

/-- Whatever order is drawn. -/
theorem sched_ok (hT : TabOk T P) (hcall : ∀ f, CallOk T P f (callF f)) (hS : Stat ops pre who) (hold : ∀ u, (∀ (j : Nat) (o : Oper), ops[j]? = some o → o.dst ≠ some u) → ds.t.get u = t0.get u) (hC : Chain ops.size pre s0 ds.stages) (hR : stagesOk T base ds.made ds.st.wm ds.reads ds.stages = true)
    (hmd : ∀ q x, sideOf ds.made q = some x → q < ops.size ∧ x.writable = true) (hF : ∀ j o, ops[j]? = some o → ∃ p, pre.get j = some p ∧ Sees ops pre j o p ∧ ∃ t, Match ops o p t0 t ds.t ∧ Fact T callF n ops base j o p t ds)
    (hpanlt : ∀ x, ds.pan = some x → x.1 < ops.size)
    {Q : Exit → Act → World → Prop} (hend : ds.pan = none → ∀ r' a' w', GlobOk T r' → TRel D r' ds.t n a' → Step r0 base g0 w0 r' ds.st.m.next (view base ds.st.m (Nat.testBit (diff (2 ^ ops.size - 1) ds.st.abs)) ds.made).get w' → Q .normal a' w')
    (hQ : ∀ x, ds.pan = some x → ∀ r' a' v' w', D.calm a' → VRel r' x.2.1 v' → Step r0 base g0 w0 r' x.2.2.next x.2.2.get w' → Q (.panic [{ v := v', recovered := false }]) a' w') :
    ∀ (fuel : Nat) (listed : Array Bool) (L : List Nat), listed.size = ops.size → L.length ≤ fuel → (∀ q, q < ops.size → listed.getD q false = false → q ∈ L) → ∀ {k s r a w},
      Sch D T n ops pre t0 base ds r0 g0 w0 (fun q => listed.getD q false) k s r a w → wpAny P .any ops Q fuel listed a w := by
  have done : ∀ (listed : Array Bool), listed.size = ops.size → Region.ready .any ops listed = [] → ∀ {k s r a w}, Sch D T n ops pre t0 base ds r0 g0 w0 (fun q => listed.getD q false) k s r a w → Q .normal a w := by
    intro listed hsz hr k s r a w h
    have all : ∀ q, q < ops.size → listed.getD q false = true := by
      intro q
      induction q using Nat.strongRecOn with
      | ind q ih =>
        intro hq
        cases c : listed.getD q false with
        | true => rfl
        | false =>
          exfalso
          have ho : ops[q]? = some ops[q] := Array.getElem?_eq_getElem hq
          obtain ⟨p, hp, _, hed⟩ := hS.pre q _ ho
          have : q ∈ Region.ready .any ops listed := by
            rw [mem_ready]
            refine ⟨?_, _, ho, fun e he hb => ?_⟩
            · rw [Array.getD_eq_getD_getElem?, Array.getElem?_eq_getElem (by omega)] at c ⊢
              exact c
            · have := hed e he hb
              exact ih e.on this (by omega)
          rw [hr] at this
          cases this
    have hpan : ds.pan = none := by
      cases e : ds.pan with
      | none => rfl
      | some x =>
        have := h.pan x e
        rw [all x.1 (hpanlt x e)] at this
        cases this
    have hlast : stageOf ds.stages ds.old.length = some ds.st := by simp [DS.stages, stageOf]
    have hk : k = ds.old.length ∧ s = ds.st := by
      have hl := stageOf_lt h.stage
      simp only [DS.stages, List.length_cons] at hl
      by_cases c : k = ds.old.length
      · subst c
        have := h.stage
        rw [hlast] at this
        cases this
        exact ⟨rfl, rfl⟩
      · exfalso
        obtain ⟨s1, e1⟩ : ∃ s1, stageOf ds.stages (k + 1) = some s1 := stageOf_some (by simp [DS.stages]; omega)
        obtain ⟨j, p, hj, _, _, e2, e3⟩ := hC.next h.stage e1
        have hE : ds.st.wm.testBit j = true := by
          have hd : stageOf ds.stages (k + 1 + (ds.old.length - (k + 1))) = some ds.st := by rw [show k + 1 + (ds.old.length - (k + 1)) = ds.old.length by omega]; exact hlast
          exact hC.mono e1 _ hd j (by rw [e2, lor_testBit, two_testBit]; simp)
        rw [h.wmE j (all j hj) hE] at e3
        cases e3
    obtain ⟨rfl, rfl⟩ := hk
    have hbig := h.big
    refine hend hpan r a w h.glob ⟨h.size, fun u v e => h.tmps u v e fun j o ho _ => all j (Array.getElem?_eq_some_iff.1 ho).1, h.calm⟩ (h.step.trans' (Step.sub h.step.mem fun b y hb => ?_) (by omega))
    rcases view_cases hb with ⟨q, e, hf, hsd⟩ | ⟨hb, hno⟩
    · rw [e]
      refine view_side ?_ hsd
      rw [diff_testBit, Bool.and_eq_true] at hf
      simp only [Bool.and_eq_true]
      exact ⟨all q (hmd q y hsd).1, hf.2⟩
    · rw [view_main]
      · exact hb
      · intro q e hf
        cases hsd : sideOf ds.made q with
        | none => rfl
        | some x =>
          have hq := (hmd q x hsd).1
          simp only [Bool.and_eq_true] at hf
          have := hno q e (by rw [diff_testBit, Nat.testBit_two_pow_sub_one, decide_eq_true hq, hf.2]; rfl)
          rw [hsd] at this
          cases this
  intro fuel
  induction fuel with
  | zero =>
    intro listed L hsz hL hall k s r a w h
    have hr : Region.ready .any ops listed = [] := by
      cases hr : Region.ready .any ops listed with
      | nil => rfl
      | cons i rest =>
        exfalso
        obtain ⟨h0, o, ho, _⟩ := mem_ready.1 (hr ▸ List.mem_cons_self : i ∈ Region.ready .any ops listed)
        have hi := (Array.getElem?_eq_some_iff.1 ho).1
        have : listed.getD i false = false := by
          rw [Array.getD_eq_getD_getElem?, Array.getElem?_eq_getElem (by omega)] at h0 ⊢
          exact h0
        have := hall i hi this
        have hnil : L = [] := List.eq_nil_of_length_eq_zero (by omega)
        rw [hnil] at this
        cases this
    exact ⟨hr, done listed hsz hr h⟩
  | succ fuel ih =>
    intro listed L hsz hL hall k s r a w h
    refine ⟨fun hr => done listed hsz hr h, fun i hi => ?_⟩
    obtain ⟨h0, o, ho, hed⟩ := mem_ready.1 hi
    have hisz := (Array.getElem?_eq_some_iff.1 ho).1
    have hSi : listed.getD i false = false := by
      rw [Array.getD_eq_getD_getElem?, Array.getElem?_eq_getElem (by omega)] at h0 ⊢
      exact h0
    obtain ⟨p, hpi, hsee, t, hmt, hfact⟩ := hF i o ho
    obtain ⟨p', hpi', hbits, _⟩ := hS.pre i o ho
    rw [hpi] at hpi'
    cases hpi'
    have hp : ∀ b, p.testBit b = true → listed.getD b false = true := by
      intro b hb
      obtain ⟨hbi, e, he, hbind, hor⟩ := hbits b hb
      have hon := hed e he hbind
      rcases hor with rfl | ⟨q, hq, hqb⟩
      · exact hon
      · have hlt : e.on < ops.size := by
          rcases Nat.lt_or_ge e.on ops.size with c | c
          · exact c
          · rw [Array.getD_eq_getD_getElem?, Array.getElem?_eq_none (by omega)] at hon
            cases hon
        exact h.closed e.on _ q (Array.getElem?_eq_getElem hlt) hon hq b hqb
    have hin := hall i hisz hSi
    have hS' : (fun q => (listed.setIfInBounds i true).getD q false) = with_ (fun q => listed.getD q false) i := by
      funext q
      by_cases c : q = i
      · subst c
        rw [with_self, Array.getD_eq_getD_getElem?, Array.getElem?_setIfInBounds, if_pos rfl, if_pos (by omega)]
        rfl
      · rw [with_ne c, getD_set_ne false (fun e => c e.symm)]
    refine sched_op hT hcall hS hold hC hR hmd h ho hpi hsee hSi hp hmt hfact (fun k' s' r' a' w' h' => ?_) hQ
    refine ih (listed.setIfInBounds i true) (L.erase i) (by simp [hsz]) (by rw [List.length_erase_of_mem hin]; omega) (fun q hq hun => ?_) (by rw [hS']; exact h')
    have hqi : q ≠ i := by
      intro c
      subst c
      have := congrFun hS' q
      rw [hun, with_self] at this
      cases this
    have := congrFun hS' q
    rw [hun, with_ne hqi] at this
    exact (List.mem_erase_of_ne hqi).2 (hall q hq this.symm)
end

/-- EVERY REGION. -/
theorem region_ok {T : Tab} {P : Program} (hT : TabOk T P) (hmix : P.follows .mixedOrders = true) {callF : FuncId → List AVal → AMem → Out AVal} (hcall : ∀ f, CallOk T P f (callF f)) (n : Nat) : RegionOk D T P callF n := by
  intro id ops draw Q r t a m w hfr hg ht hm h
  cases draw with
  | false =>
    simp only [evRegion] at h
    have := evOps_ok hT hcall (ops := ops) hfr ops.toList 0 rfl hg ht hm h
    refine wp_region ?_
    rw [List.range_eq_range']
    simpa using this
  | true =>
    simp only [evRegion] at h
    refine wp_region_any hmix ?_
    unfold evDraw at h
    split at h
    · rename_i pre who hpre hwho
      split at h
      · exact h.elim
      · rename_i ds hds
        obtain ⟨_, m2⟩ := masks_spec ops.toList 0 .leaf pre (fun _ _ => rfl) (fun j k e => by cases e) hpre
        obtain ⟨_, w2⟩ := whoOf_spec ops.toList 0 .leaf who hwho
        have hS : Stat ops pre who := ⟨fun i o ho => by have := m2 i o (by simpa using ho); rwa [Nat.zero_add] at this, fun i o d ho hd => by have := w2 i o d (by simpa using ho) hd; rwa [Nat.zero_add] at this⟩
        have hinv0 : Inv ops ops.size pre ⟨⟨m.next + ops.size, m.tree⟩, 0, 0⟩ t 0 ⟨t, [], ⟨⟨m.next + ops.size, m.tree⟩, 0, 0⟩, [], [], none⟩ :=
          ⟨fun x hx => (by cases hx), fun s hs b hb => (by simp [DS.stages] at hs; subst hs; simp at hb), rfl, fun x hx => (by cases hx), fun x hx => (by cases hx), fun _ _ => rfl⟩
        obtain ⟨hlater, hinv, hfacts⟩ := drawOps_ok hS ops.toList 0 _ ds rfl hinv0 hds
        have hmd : ∀ q x, sideOf ds.made q = some x → q < ops.size ∧ x.writable = true := by
          intro q x hx
          have key : ∀ (l : List (Nat × ABlk)) q x, sideOf l q = some x → (q, x) ∈ l := by
            intro l
            induction l with
            | nil => intro q x h; simp [sideOf] at h
            | cons y rest ih =>
              intro q x h
              simp only [sideOf] at h
              split at h
              · rename_i e; cases h; rw [e]; simp
              · exact List.mem_cons_of_mem _ (ih q x h)
          have hmem := key _ _ _ hx
          have h1 := hinv.made _ hmem
          simp at h1
          exact ⟨h1, hinv.wr _ hmem⟩
        split at h
        · exact h.elim
        · rename_i hR
          have hfirst := hinv.chain.first
          obtain ⟨hn1, hn2⟩ : (∀ q, r.at_ (m.next + q) = none) ∧ ∀ q, m.get (m.next + q) = none :=
            ⟨fun q => (hm.none_at (Nat.le_add_right _ _)).1, fun q => (hm.none_at (Nat.le_add_right _ _)).2⟩
          refine sched_ok (D := D) (r0 := r) (g0 := m.get) (w0 := w) hT hcall hS (fun u hu => hinv.kept u fun j o _ ho => hu j o ho) hinv.chain hR hmd (fun j o ho => hfacts j o (Nat.zero_le _) ho) (fun x hx => by have := hinv.pan x hx; simpa using this) ?_ ?_
            ops.size (Array.replicate ops.size false) (List.range ops.size) (by simp) (by simp) (fun q hq _ => List.mem_range.2 hq) (k := 0) (s := ⟨⟨m.next + ops.size, m.tree⟩, 0, 0⟩) (r := r) ?_
          · intro hpan r' a' w' hg' ht' hst
            rw [hpan] at h
            simp only at h
            refine h r' a' w' ht' hg' ?_
            rw [view_next]
            exact hst
          · intro x hx r' a' v' w' hc hv hst
            rw [hx] at h
            exact h r' a' v' w' hc hv hst
          · have hS0 : ∀ q, (Array.replicate ops.size false).getD q false = false := by
              intro q
              rw [Array.getD_eq_getD_getElem?, Array.getElem?_replicate]
              split <;> rfl
            have hview : (view m.next ⟨m.next + ops.size, m.tree⟩ (fun q => (Array.replicate ops.size false).getD q false && !Nat.testBit 0 q) ds.made).get = m.get := by
              funext b
              rw [view_main fun q _ hf => by rw [hS0] at hf; cases hf]
              rfl
            refine ⟨fun i o p _ hi => (by simp only [hS0] at hi; cases hi), hfirst, fun b hb => (by simp at hb), fun b hb => (by simp only [hS0] at hb; cases hb), fun b hb => (by simp at hb),
              fun x _ => hS0 _, fun q _ _ => hn1 q, fun q b _ _ => hn2 q, Nat.le_refl _, hg, ht.size, ht.calm, hfr, fun u v e hall => ?_, fun u v e _ _ _ _ _ => ht.at_ u v e, ?_⟩
            · refine ht.at_ u v ?_
              have := hlater.t u fun j o _ ho hd => by have := hall j o ho hd; rw [hS0] at this; cases this
              rw [← e]
              exact this.symm
            · rw [hview]
              exact Step.same hm (Nat.le_add_right _ _) rfl rfl rfl rfl
    · exact h.elim

/-- THE EVALUATOR IS SOUND. -/
theorem evFn_sound {T : Tab} {P : Program} (hT : TabOk T P) (hmix : P.follows .mixedOrders = true) (hspec : ∀ f F, T.spec f = some F → CallOk T P f F) (k : Nat) (f : FuncId) : CallOk T P f (evFn T k f) :=
  evFn_ok hT hspec (fun _ hcall n => region_ok hT hmix hcall n) k f
end Ev
end Go.Proofs.YtfddpaljmihinaaGreatDoor
