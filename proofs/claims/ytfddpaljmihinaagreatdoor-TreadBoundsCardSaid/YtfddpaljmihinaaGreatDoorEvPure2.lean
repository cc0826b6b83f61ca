/-
  The evaluator's pure operations answer what the machine's do: comparisons, slices, places, parts. (Conditions: the tables tell of the program what is so; the temporaries are related.)
-/
import Derived.Test.YtfddpaljmihinaaGreatDoorEvPure
namespace Go.Proofs.YtfddpaljmihinaaGreatDoor
namespace Ev
open Go

section
variable {T : Tab} {P : Program} (hT : TabOk T P) {r : Ren} (w : World)

theorem guard_plain {op : BinOp} {t : TypeId} {x y : Operand} {a b : Value} (h1 : a ≠ .nilIface ∨ b ≠ .nilIface) (h2 : ∀ cs, a ≠ .agg cs) :
    (eqGuard op t x y a b).run P w = .ok () w := by
  cases a with
  | agg cs => exact absurd rfl (h2 cs)
  | nilIface => cases b with
    | nilIface => simp at h1
    | _ => cases op <;> rfl
  | _ => cases op <;> rfl

theorem eqCell_notAgg {d : TypeDesc} {x y : AVal} {x' : Value} {b : Bool} (hx : VRel r x x') (h : eqCell d x y = some b) : ∀ cs, x' ≠ .agg cs := by
  intro cs e
  subst e
  cases hx <;> simp [eqCell] at h

theorem eqCell_notNil {d : TypeDesc} {x y : AVal} {x' y' : Value} {b : Bool} (hx : VRel r x x') (hy : VRel r y y') (h : eqCell d x y = some b) : x' ≠ .nilIface ∨ y' ≠ .nilIface := by
  rcases Classical.em (x' = .nilIface) with e | e
  · right
    subst e
    intro e2
    subst e2
    cases hx <;> cases hy <;> simp [eqCell] at h
  · exact .inl e

theorem equalIn_iface (n : Nat) {t t1 : TypeId} {ms : Array (String × TypeId)} {i : TypeInfo} (u1 u2 : Value) (hu : P.underlying t = some (.interface ms))
    (hi : P.info? t1 = some i) (hc : i.comparable = true) :
    (Op.equalIn (n + 1) t (.iface t1 u1) (.iface t1 u2)).run P w = (Op.equalIn n t1 u1 u2).run P w := by
  simp [Op.equalIn, run_underlying hu, typeInfo, hi, hc]
theorem equalIn_iface_ne (n : Nat) {t t1 t2 : TypeId} {ms : Array (String × TypeId)} (u1 u2 : Value) (hu : P.underlying t = some (.interface ms)) (c : ¬ t1 = t2) :
    (Op.equalIn (n + 1) t (.iface t1 u1) (.iface t2 u2)).run P w = .ok false w := by
  simp [Op.equalIn, run_underlying hu, c]
theorem equalIn_nils (n : Nat) {t : TypeId} {ms : Array (String × TypeId)} (hu : P.underlying t = some (.interface ms)) :
    (Op.equalIn (n + 1) t .nilIface .nilIface).run P w = .ok true w := by
  simp [Op.equalIn, run_underlying hu]

include hT in
theorem partOf_ok {t : TypeId} {cs : List AVal} {cs' : Array Value} {off : Nat} {v : AVal} (hc : VsRel r cs cs'.toList) (h : partOf T t cs off = some v) :
    ∃ v', (part t cs' off).run P w = .ok v' w ∧ VRel r v v' := by
  unfold partOf at h
  split at h
  · rename_i hb
    split at h
    · rename_i n hn
      split at h
      · rename_i hl
        cases h
        have hl' := Nat.le_of_ble_eq_true hl
        refine ⟨.agg (cs'.extract off (off + n)), by simp [part, run_isAgg hT hb, run_size hT hn], ?_⟩
        refine .aggOf ?_
        have : (cs'.extract off (off + n)).toList = (cs'.toList.drop off).take n := by
          rw [Array.toList_extract, List.extract_eq_take_drop]; congr 1; omega
        rw [this]
        exact (hc.drop _).take _
      · cases h
    · cases h
  · rename_i hb
    obtain ⟨v', e, hv⟩ := hc.get h
    have e' : cs'[off]? = some v' := by rw [← Array.getElem?_toList]; exact e
    exact ⟨v', by simp [part, run_isAgg hT hb, e'], hv⟩
  · cases h

include hT in
theorem eqFieldsA_ok (n : Nat) {as bs : List AVal} {as' bs' : Array Value} (ha : VsRel r as as'.toList) (hb : VsRel r bs bs'.toList) : ∀ {fs : List Field} {v : Bool}, (fs.all fun f => f.name != "_") = true → eqFieldsA T as bs fs = some v → (Op.eqFields (n + 1) as' bs' fs).run P w = .ok v w := by
  intro fs
  induction fs with
  | nil => intro v _ h; cases h; rfl
  | cons f fs ih =>
    intro v hn h
    simp only [List.all_cons, Bool.and_eq_true] at hn
    have hf : f.name ≠ "_" := by simpa using hn.1
    simp only [eqFieldsA] at h
    split at h
    · rename_i d x y hd hx hy
      obtain ⟨x', e1, h1⟩ := partOf_ok hT (w := w) ha hx
      obtain ⟨y', e2, h2⟩ := partOf_ok hT (w := w) hb hy
      simp only [Op.eqFields, if_pos hf, Sem.run_bind, e1, e2, Result.andThen_ok]
      split at h
      · rename_i he
        rw [eqCell_ok (w := w) (hT.und hd) n h1 h2 he]
        simp only [Result.andThen_ok, Bool.not_true, Bool.false_eq_true, if_false]
        exact ih hn.2 h
      · rename_i he
        cases h
        rw [eqCell_ok (w := w) (hT.und hd) n h1 h2 he]
        rfl
      · cases h
    · cases h

include hT in
theorem eqOp_ok {t : TypeId} {x y : Operand} {a b : AVal} {a' b' : Value} {v : Bool} (op : BinOp) (ha : VRel r a a') (hb : VRel r b b')
    (h : eqOp T t x y a b = some v) : (eqGuard op t x y a' b').run P w = .ok () w ∧ (Op.equal t a' b').run P w = .ok v w := by
  obtain ⟨n, hn⟩ : ∃ n, ∀ t x y, Op.equal t x y = Op.equalIn (n + 1 + 1) t x y := ⟨9998, fun _ _ _ => rfl⟩
  unfold eqOp at h
  split at h
  · cases h
  · rename_i d hd
    have hu := hT.und hd
    split at h
    · rw [ha.niface_inv, hb.niface_inv]
      have e1 : (Op.equal t .nilIface .nilIface).run P w = .ok true w := by rw [hn]; exact equalIn_nils w _ hu
      split at h
      · cases h; exact ⟨by rw [eqGuard_nil_constL]; rfl, e1⟩
      · cases h; exact ⟨by rw [eqGuard_nil_constR]; rfl, e1⟩
      · cases h
    · rename_i ms t1 v1 t2 v2
      obtain ⟨u1, rfl, h1⟩ := ha.iface_inv
      obtain ⟨u2, rfl, h2⟩ := hb.iface_inv
      refine ⟨by rw [eqGuard_at_iface]; rfl, ?_⟩
      rw [hn]
      by_cases c : t1 = t2
      · rw [if_pos c] at h
        subst c
        split at h
        · rename_i i d1 hi hd1
          split at h
          · rename_i hc
            rw [equalIn_iface w (n + 1) u1 u2 hu (hT.info _ _ hi) hc]
            exact eqCell_ok (w := w) (hT.und hd1) n h1 h2 h
          · cases h
        · cases h
      · rw [if_neg c] at h
        cases h
        exact equalIn_iface_ne w _ u1 u2 hu c
    · rename_i e b1 o1 b2 o2
      obtain ⟨B1, hB1, rfl⟩ := ha.ptr_inv
      obtain ⟨B2, hB2, rfl⟩ := hb.ptr_inv
      refine ⟨by rw [eqGuard_at_pointer]; rfl, ?_⟩
      split at h
      · rename_i k hk
        by_cases c : b1 = b2
        · rw [if_pos c] at h
          cases h
          subst c
          rw [hB1] at hB2
          cases hB2
          rw [hn]
          simp only [Op.equalIn, Sem.run_bind, run_underlying hu, run_size hT hk, Result.andThen_ok]
          have e2 : ((⟨B1.cb, B1.base + o1, none⟩ : Addr) == ⟨B1.cb, B1.base + o2, none⟩) = (o1 == o2) := by
            rw [Bool.eq_iff_iff, beq_iff_eq, beq_iff_eq]
            constructor
            · intro h; have := (Addr.mk.inj h).2.1; omega
            · intro h; rw [h]
          simp [sameAddr]
          rw [← e2, Bool.eq_iff_iff]
        · rw [if_neg c] at h; cases h
      · cases h
    · rename_i fs as bs
      split at h
      · rename_i he
        obtain ⟨q1, q2, q3⟩ := hT.eqs t he
        obtain ⟨as', rfl, h1⟩ := ha.agg_inv
        obtain ⟨bs', rfl, h2⟩ := hb.agg_inv
        have hfo : P.fieldsOf t = fs := by simp [Program.fieldsOf, hu]
        rw [hfo] at q3
        refine ⟨run_eqGuard_agg w op t x y as' bs' q2, ?_⟩
        rw [hn, run_equalIn_struct w (n + 1) t as' bs' (by rw [hfo]; exact hu) q1, hfo]
        exact eqFieldsA_ok hT (w := w) n h1 h2 q3 h
      · cases h
    · exact ⟨guard_plain w (eqCell_notNil ha hb h) (eqCell_notAgg ha h), by rw [hn]; exact eqCell_ok (w := w) hu _ ha hb h⟩
end
end Ev
end Go.Proofs.YtfddpaljmihinaaGreatDoor
