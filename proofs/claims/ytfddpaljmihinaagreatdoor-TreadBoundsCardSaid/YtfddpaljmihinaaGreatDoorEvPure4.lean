/-
  The evaluator's pure operations answer what the machine's do: slices, places, literals. (Conditions: the tables tell of the program what is so.)
-/
import Derived.Test.YtfddpaljmihinaaGreatDoorEvPure3
namespace Go.Proofs.YtfddpaljmihinaaGreatDoor
namespace Ev
open Go

section
variable {T : Tab} {P : Program} (hT : TabOk T P) {r : Ren} (w : World)

/-! Bounds -/
theorem bound_ok {x : AVal} {x' : Value} {most n y : Nat} (code : BoundsCode) (hx : VRel r x x') (h : bound x most = some n) (hy : most ≤ y) :
    (Instr.sliceBound x' y code).run P w = .ok n w ∧ n ≤ most := by
  unfold bound at h
  split at h
  · rename_i k i
    rw [hx.int_inv]
    split at h
    · rename_i hle
      cases h
      have c := Nat.le_of_ble_eq_true hle
      exact ⟨by simp [Instr.sliceBound, asIntOf]; intro h; omega, c⟩
    · cases h
  · cases h

inductive ORel (r : Ren) : Option AVal → Option Value → Prop where
  | none : ORel r none none
  | some {v : AVal} {v' : Value} (h : VRel r v v') : ORel r (some v) (some v')

theorem boundOr_ok {x : Option AVal} {x' : Option Value} {most n : Nat} (hx : ORel r x x') (e : boundOr x most 0 = some n) : n ≤ most := by
  cases hx with
  | none => cases e; exact Nat.zero_le _
  | some h => exact (bound_ok (P := ⟨default, #[]⟩) (w := default) .index h e (Nat.le_refl _)).2

theorem bounds2_ok {isSlice : Bool} {len most cap l h : Nat} {lo hi : Option AVal} {lo' hi' : Option Value}
    (hlo : ORel r lo lo') (hhi : ORel r hi hi') (e : bounds2 len most lo hi = some (l, h)) (hm : most ≤ cap) (hlen : len ≤ cap) :
    (Instr.sliceBounds isSlice len cap lo' hi' none).run P w = .ok (l, h, cap) w ∧ l ≤ h ∧ h ≤ cap := by
  unfold bounds2 at e
  cases hhi with
  | none =>
    simp only [boundOr] at e
    cases hlo with
    | none => cases e; exact ⟨by simp [Instr.sliceBounds], Nat.zero_le _, hlen⟩
    | some hv =>
      simp only at e
      split at e
      · cases e
      · rename_i l' hl
        cases e
        have := bound_ok (P := P) (w := w) .sliceB hv hl (Nat.le_refl _)
        exact ⟨by simp [Instr.sliceBounds, this.1], this.2, hlen⟩
  | some hu =>
    simp only [boundOr] at e
    split at e
    · cases e
    · rename_i h' hh
      have b1 := bound_ok (P := P) (w := w) (if isSlice then .sliceAcap else .sliceAlen) hu hh hm
      cases hlo with
      | none => cases e; exact ⟨by simp [Instr.sliceBounds, b1.1], Nat.zero_le _, by omega⟩
      | some hv =>
        simp only at e
        split at e
        · cases e
        · rename_i l' hl
          cases e
          have b2 := bound_ok (P := P) (w := w) .sliceB hv hl (Nat.le_refl _)
          exact ⟨by simp [Instr.sliceBounds, b1.1, b2.1], b2.2, by omega⟩

theorem bounds3_ok {isSlice : Bool} {len most cap l h m : Nat} {lo : Option AVal} {hi mx : AVal} {lo' : Option Value} {hi' mx' : Value}
    (hlo : ORel r lo lo') (hhi : VRel r hi hi') (hmx : VRel r mx mx') (e : bounds3 most lo hi mx = some (l, h, m)) (hm : most ≤ cap) :
    (Instr.sliceBounds isSlice len cap lo' (some hi') (some mx')).run P w = .ok (l, h, m) w ∧ l ≤ h ∧ h ≤ m ∧ m ≤ most := by
  unfold bounds3 at e
  split at e
  · cases e
  · rename_i m' hm'
    have b0 := bound_ok (P := P) (w := w) (if isSlice then .slice3Acap else .slice3Alen) hmx hm' hm
    split at e
    · cases e
    · rename_i h' hh
      have b1 := bound_ok (P := P) (w := w) .slice3B hhi hh (Nat.le_refl _)
      cases hlo with
      | none => cases e; exact ⟨by simp [Instr.sliceBounds, b0.1, b1.1], Nat.zero_le _, b1.2, b0.2⟩
      | some hv =>
        simp only [boundOr] at e
        split at e
        · cases e
        · rename_i l' hl
          cases e
          have b2 := bound_ok (P := P) (w := w) .slice3C hv hl (Nat.le_refl _)
          exact ⟨by simp [Instr.sliceBounds, b0.1, b1.1, b2.1], b2.2, b1.2, b0.2⟩

theorem Addr_add (b o n : Nat) : (⟨b, o, none⟩ : Addr).add n = ⟨b, o + n, none⟩ := by
  unfold Addr.add
  by_cases h : n = 0
  · rw [if_pos h, h]; rfl
  · rw [if_neg h]


theorem Cap.low_le {cap : Cap} {c : Nat} (h : cap.holds c) : cap.low ≤ c := by
  cases cap with
  | exact n => exact Nat.le_of_eq h.symm
  | least n => exact h

/-- A piece of a slice. -/
theorem piece_rel {b o esz : Nat} {B : Blk} {a : Addr} {c l h m : Nat} {cap' : Cap} (hB : r.at_ b = some B)
    (hr : c = 0 ∨ (a = ⟨B.cb, B.base + o, none⟩ ∧ B.base + o + c * esz ≤ B.size)) (hlh : l ≤ h) (hm : h ≤ m) (hc : m ≤ c) (hcap : cap'.holds (m - l)) :
    VRel r (.slice b (o + l * esz) (h - l) esz cap') (.slice (if m = l then some a else (some a).map (·.add (l * esz))) (h - l) (m - l)) := by
  by_cases e : m = l
  · rw [if_pos e]
    exact .slice b _ _ esz cap' B a _ hB hcap (by omega) (.inl (by omega))
  · rw [if_neg e]
    rcases hr with hr | ⟨ha, hs⟩
    · omega
    · subst ha
      rw [Option.map_some, Addr_add]
      refine .slice b _ _ esz cap' B _ _ hB hcap (by omega) (.inr ⟨by rw [Nat.add_assoc], ?_⟩)
      have : l * esz + (m - l) * esz = m * esz := by rw [← Nat.add_mul]; congr 1; omega
      have h2 : m * esz ≤ c * esz := Nat.mul_le_mul_right _ hc
      omega

include hT in
theorem sliceOp_ok {t : TypeId} {x : AVal} {x' : Value} {lo hi mx : Option AVal} {lo' hi' mx' : Option Value} {v : AVal}
    (hx : VRel r x x') (hlo : ORel r lo lo') (hhi : ORel r hi hi') (hmx : ORel r mx mx') (h : sliceOp T t x lo hi mx = some v) :
    ∃ v', (Instr.sliceAt t x' lo' hi' mx').run P w = .ok v' w ∧ VRel r v v' := by
  unfold sliceOp at h
  split at h
  · rename_i s hd
    obtain ⟨s', rfl, es⟩ := hx.str_inv
    cases hmx with
    | some _ => simp at h
    | none =>
      simp only at h
      split at h
      · rename_i l h' hb
        cases h
        have hz : s.length = s'.size := by rw [← es, data_size]
        rw [hz] at hb
        obtain ⟨b1, b2, b3⟩ := bounds2_ok (P := P) (w := w) (isSlice := false) hlo hhi hb (Nat.le_refl _) (Nat.le_refl _)
        refine ⟨.string (s'.extract l h'), by simp [Instr.sliceAt, Instr.slice, run_und hT hd, b1], .str _ _ ?_⟩
        rw [Lib.extract_data, es, List.drop_take]
      · cases h
  · rename_i e hd
    rw [hx.nslice_inv]
    split at h
    · rename_i n hn
      cases hmx
      split at h
      · rename_i lh hb
        cases h
        obtain ⟨l, h'⟩ := lh
        obtain ⟨b1, b2, b3⟩ := bounds2_ok (P := P) (w := w) (isSlice := true) hlo hhi hb (Nat.le_refl _) (Nat.le_refl _)
        have z1 : h' = 0 := by omega
        have z2 : l = 0 := by omega
        subst z1; subst z2
        exact ⟨.slice none 0 0, by simp [Instr.sliceAt, Instr.slice, run_und hT hd, b1, run_size hT hn], .nslice⟩
      · cases h
    · cases h
  · rename_i e b o len esz cap hd
    obtain ⟨B, a, c, hB, rfl, hc, hl, hr⟩ := hx.slice_inv
    split at h
    · cases h
    · rename_i n hn
      split at h
      · cases h
      · rename_i hbe
        have hne : n = esz := Nat.eq_of_beq_eq_true hbe
        subst hne
        have hlow := Cap.low_le hc
        split at h
        · split at h
          · rename_i l h' hb
            cases h
            cases hmx
            obtain ⟨b1, b2, b3⟩ := bounds2_ok (P := P) (w := w) (isSlice := true) hlo hhi hb hlow hl
            refine ⟨_, by simp [Instr.sliceAt, Instr.slice, run_und hT hd, b1, run_size hT hn]; rfl, ?_⟩
            refine piece_rel hB hr b2 b3 (Nat.le_refl _) ?_
            cases cap with
            | exact k => simp only [Cap.holds, Cap.less] at hc ⊢; omega
            | least k => simp only [Cap.holds, Cap.less] at hc ⊢; omega
          · cases h
        · split at h
          · rename_i l h' m hb
            cases h
            cases hmx with
            | some hz => cases hhi with
              | some hu =>
                obtain ⟨b1, b2, b3, b4⟩ := bounds3_ok (P := P) (w := w) (isSlice := true) (len := len) hlo hu hz hb hlow
                refine ⟨_, by simp [Instr.sliceAt, Instr.slice, run_und hT hd, b1, run_size hT hn]; rfl, ?_⟩
                exact piece_rel hB hr b2 b3 (by omega) rfl
          · cases h
        · cases h
  · cases h

/-! Places -/
include hT in
theorem fieldAddrOp_ok {s : TypeId} {x : AVal} {x' : Value} {f : Nat} {v : AVal} (hx : VRel r x x') (h : fieldAddrOp T s x f = some v) :
    ∃ v', (Instr.fieldAt s x' f).run P w = .ok v' w ∧ VRel r v v' := by
  unfold fieldAddrOp at h
  split at h
  · rename_i fs b o hd
    obtain ⟨B, hB, rfl⟩ := hx.ptr_inv
    split at h
    · rename_i fd hf
      split at h
      · rename_i n hn
        cases h
        refine ⟨_, by simp [Instr.fieldAt, run_und hT hd, hf, Instr.sureAddr, fieldPlace, run_size hT hn, Addr_add]; rfl, ?_⟩
        rw [Nat.add_assoc]
        exact .ptr b (o + fd.offset) B hB
      · cases h
    · cases h
  · cases h

include hT in
theorem fieldOp_ok {t : TypeId} {x : AVal} {x' : Value} {f : Nat} {v : AVal} (hx : VRel r x x') (h : fieldOp T t x f = some v) :
    ∃ v', (Instr.field t x' f).run P w = .ok v' w ∧ VRel r v v' := by
  unfold fieldOp at h
  split at h
  · rename_i fs cs hd
    obtain ⟨cs', rfl, hc⟩ := hx.agg_inv
    split at h
    · rename_i fd hf
      obtain ⟨v', e, hv⟩ := partOf_ok hT w hc h
      exact ⟨v', by simp [Instr.field, run_und hT hd, hf, asAgg, e], hv⟩
    · cases h
  · cases h

include hT in
theorem indexAddrOp_ok {t : TypeId} {x i : AVal} {x' i' : Value} {v : AVal} (hx : VRel r x x') (hi : VRel r i i') (h : indexAddrOp T t x i = some v) :
    ∃ v', (Instr.indexAt t x' i').run P w = .ok v' w ∧ VRel r v v' := by
  unfold indexAddrOp at h
  split at h
  · rename_i k i
    rw [hi.int_inv]
    split at h
    · rename_i n e b o hd
      obtain ⟨B, hB, rfl⟩ := hx.ptr_inv
      split at h
      · rename_i esz hn
        by_cases c : 0 ≤ i ∧ i < (n : Int)
        · rw [if_pos c] at h
          cases h
          refine ⟨_, by simp [Instr.indexAt, asIntOf, run_und hT hd, Instr.sureAddr, c, run_size hT hn, Addr_add]; rfl, ?_⟩
          rw [Nat.add_assoc]
          exact .ptr b _ B hB
        · rw [if_neg c] at h; cases h
      · cases h
    · rename_i e b o len esz cap hd
      obtain ⟨B, a, c, hB, rfl, hc, hl, hr⟩ := hx.slice_inv
      split at h
      · rename_i n hn
        split at h
        · rename_i hbe
          have hne : n = esz := Nat.eq_of_beq_eq_true hbe
          subst hne
          by_cases ci : 0 ≤ i ∧ i < (len : Int)
          · rw [if_pos ci] at h
            cases h
            rcases hr with hr | ⟨ha, _⟩
            · omega
            · subst ha
              refine ⟨_, by simp [Instr.indexAt, asIntOf, run_und hT hd, ci, run_size hT hn, Addr_add]; rfl, ?_⟩
              rw [Nat.add_assoc]
              exact .ptr b _ B hB
          · rw [if_neg ci] at h; cases h
        · cases h
      · cases h
    · cases h
  · cases h

include hT in
theorem indexOp_ok {t : TypeId} {x i : AVal} {x' i' : Value} {v : AVal} (hx : VRel r x x') (hi : VRel r i i') (h : indexOp T t x i = some v) :
    ∃ v', (Instr.index t x' i').run P w = .ok v' w ∧ VRel r v v' := by
  unfold indexOp at h
  split at h
  · rename_i k i
    rw [hi.int_inv]
    split at h
    · rename_i n e cs hd
      obtain ⟨cs', rfl, hc⟩ := hx.agg_inv
      split at h
      · rename_i esz hn
        by_cases c : 0 ≤ i ∧ i < (n : Int)
        · rw [if_pos c] at h
          obtain ⟨v', e, hv⟩ := partOf_ok hT w hc h
          exact ⟨v', by simp [Instr.index, asIntOf, run_und hT hd, c, run_size hT hn, e], hv⟩
        · rw [if_neg c] at h; cases h
      · cases h
    · rename_i s hd
      obtain ⟨s', rfl, es⟩ := hx.str_inv
      by_cases c : 0 ≤ i
      · rw [if_pos c] at h
        split at h
        · rename_i b hb
          cases h
          have hlt : i.toNat < s'.size := by
            rw [← data_size, es]
            rcases Nat.lt_or_ge i.toNat s.length with z | z
            · exact z
            · rw [List.getElem?_eq_none z] at hb; cases hb
          have e1 : s'[i.toNat]? = some (s'[i.toNat]'hlt) := ByteArray.getElem?_lt' s' _ hlt
          have e2 : s'[i.toNat]'hlt = b := by
            have : s'.data.toList[i.toNat]? = some b := by rw [es]; exact hb
            have h3 : i.toNat < s'.data.toList.length := by rw [data_size]; exact hlt
            rw [List.getElem?_eq_getElem h3] at this
            have := Option.some.inj this
            rw [← this]
            rfl
          refine ⟨_, by simp [Instr.index, asIntOf, run_und hT hd, c, e1, e2], .int _ _⟩
        · cases h
      · rw [if_neg c] at h; cases h
    · cases h
  · cases h

include hT in
theorem assertOp_ok {x : AVal} {x' : Value} {xt at_ : TypeId} {ok : Bool} {v : AVal} (hx : VRel r x x') (h : assertOp T x at_ ok = some v) :
    ∃ v', (Instr.typeAssert x' xt at_ ok).run P w = .ok v' w ∧ VRel r v v' := by
  have two : ∀ {a b : AVal} {a' b' : Value}, VRel r a a' → VRel r b b' → VRel r (.tuple [a, b]) (.tuple #[a', b']) := fun h k => .tupleOf (.cons h (.cons k (.nil r)))
  unfold assertOp at h
  split at h
  · cases h
  · cases h
  · rename_i d hn hd
    have e0 : ∀ ms, d ≠ .interface ms := fun ms e => hn ms e
    split at h
    · rw [hx.niface_inv]
      split at h
      · cases hz : T.zero at_ with
        | none => rw [hz] at h; cases h
        | some z =>
          rw [hz] at h
          cases h
          obtain ⟨z', ez, rfl⟩ := run_zero hT hz w
          refine ⟨.tuple #[z', .bool false], ?_, two (absV_rel r z') (.bool _)⟩
          cases d <;> first | exact absurd rfl (e0 _) | simp [Instr.typeAssert, run_und hT hd, ez]
      · cases h
    · rename_i t u
      obtain ⟨u', rfl, hu⟩ := hx.iface_inv
      by_cases c : t = at_
      · rw [if_pos c] at h
        cases ok with
        | true =>
          cases h
          refine ⟨.tuple #[u', .bool true], ?_, two hu (.bool _)⟩
          cases d <;> first | exact absurd rfl (e0 _) | simp [Instr.typeAssert, run_und hT hd, c]
        | false =>
          cases h
          refine ⟨u', ?_, hu⟩
          cases d <;> first | exact absurd rfl (e0 _) | simp [Instr.typeAssert, run_und hT hd, c]
      · rw [if_neg c] at h
        split at h
        · cases hz : T.zero at_ with
          | none => rw [hz] at h; cases h
          | some z =>
            rw [hz] at h
            cases h
            obtain ⟨z', ez, rfl⟩ := run_zero hT hz w
            refine ⟨.tuple #[z', .bool false], ?_, two (absV_rel r z') (.bool _)⟩
            cases d <;> first | exact absurd rfl (e0 _) | simp [Instr.typeAssert, run_und hT hd, c, ez]
        · cases h
    · cases h
end
end Ev
end Go.Proofs.YtfddpaljmihinaaGreatDoor
