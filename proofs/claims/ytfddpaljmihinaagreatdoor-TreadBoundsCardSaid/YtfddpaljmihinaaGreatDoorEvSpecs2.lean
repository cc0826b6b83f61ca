/-
  The functions that the evaluator takes by a specification: those of the shelf (internal/stringslite.Index, strings.Repeat). (Conditions: their contracts.)
-/
import Derived.Test.YtfddpaljmihinaaGreatDoorEvSpecs
import Derived.Lib.Index
import Derived.Lib.Repeat
import Derived.Below
namespace Go.Proofs.YtfddpaljmihinaaGreatDoor
namespace Ev
open Go
noncomputable section

def idxStr (p : List UInt8) : List UInt8 → Nat → Int
  | [], k => match p.isEmpty with
    | true => k
    | false => -1
  | b :: l, k => match p.isPrefixOf (b :: l) with
    | true => k
    | false => idxStr p l (k + 1)

theorem idxStr_eq (p : List UInt8) : ∀ (l : List UInt8) (k : Nat), idxStr p l k = if Lib.index l p = -1 then -1 else Lib.index l p + k
  | [], k => by
    unfold idxStr Lib.index
    cases p with
    | nil => simp
    | cons a b => simp
  | b :: l, k => by
    unfold idxStr Lib.index
    have ih := idxStr_eq p l (k + 1)
    have hge := Lib.index_ge l p
    cases hp : p.isPrefixOf (b :: l) with
    | true => simp
    | false =>
      simp only [Bool.false_eq_true, if_false]
      rw [ih]
      by_cases c : Lib.index l p = -1
      · simp [c]
      · have h2 : ¬ (Lib.index l p + 1 = -1) := by omega
        simp [c, h2]
        omega

section
variable {T : Tab} {P : Program}

/-- 'MaxLen' must bear a number: whatever. -/
def specIndex : List AVal → AMem → Out AVal
  | [.str s, .str p], m => match m.get 0 with
    | some (.cells _ (.int .i64 _ :: _) _ _ _) => match Nat.blt s.length 4294967281 with
      | true => .ok (.int .i64 (idxStr p s 0)) m
      | false => .fail "spec"
    | _ => .fail "spec"
  | _, _ => .fail "spec"

theorem specIndex_ok {f : FuncId} (hg0 : T.glob 0 = true) (hent : ∀ args w, (callFunc f args).run P w = .ok (.enter f args) w)
    (h : ∀ (s sub : ByteArray) (m : Int) (w : World), s.size < 4294967281 → w.cell? ⟨0, 0, none⟩ = some (.int .i64 m) →
      Calls P f #[.string s, .string sub] w fun e w' => e = .returned (.int .i64 (Lib.index s.data.toList sub.data.toList)) ∧ w' = w) : CallOk T P f specIndex := by
  intro r w m args args' hg hm ha hgood
  unfold specIndex at hgood ⊢
  split at hgood
  · rename_i s p
    split at hgood
    · rename_i e z rest ro frz wh h0
      split at hgood
      · rename_i hlt
        have hlt' : s.length < 4294967281 := Nat.lt_of_succ_le (Nat.le_of_ble_eq_true hlt)
        obtain ⟨x', t', e1, e2, e3⟩ := ha.cons_inv
        obtain ⟨y', t2, e4, e5, e6⟩ := e3.cons_inv
        obtain ⟨b1, hb1, hd1⟩ := e2.str_inv
        obtain ⟨b2, hb2, hd2⟩ := e5.str_inv
        rw [e6.nil_inv] at e4
        rw [e4, hb1, hb2] at e1
        have : args' = #[.string b1, .string b2] := Array.toList_inj.1 e1
        subst this
        obtain ⟨B, hB, hcb, hbase⟩ := hg 0 hg0
        obtain ⟨B', hB', c, fr, q1, q2, q3, q4, q5⟩ := hm.blk 0 _ h0
        rw [hB] at hB'
        cases hB'
        rw [hcb] at q1
        have hcell : w.cell? ⟨0, 0, none⟩ = some (.int .i64 z) := by
          obtain ⟨v', g1, g2⟩ := q4.get (i := 0) rfl
          rw [g2.int_inv, hbase] at g1
          simp [World.cell?, q1]
          simpa using g1
        have hsz : b1.size < 4294967281 := by
          have : b1.size = b1.data.toList.length := by simp
          rw [this, hd1]; exact hlt'
        refine .inr ⟨hent _ _, (h b1 b2 z w hsz hcell).mono fun en w' hp => ?_⟩
        obtain ⟨hp1, hp2⟩ := hp
        subst hp1; subst hp2
        refine ⟨r, _, rfl, ?_, .refl hm⟩
        rw [idxStr_eq, hd1, hd2]
        have : (if Lib.index s p = -1 then -1 else Lib.index s p + ((0 : Nat) : Int)) = Lib.index s p := by split <;> simp_all
        rw [this]
        exact .int _ _
      · exact hgood.elim
    · exact hgood.elim
  · exact hgood.elim

theorem Step.below {r : Ren} {n : Nat} {g : Nat → Option ABlk} {w w' : World} (hm : MemRel r n g w) (h : Go.RowKit.Below w.heap.size w w') : Step r n g w r n g w' where
  le := r.le_refl
  mem := ⟨hm.fresh, fun b B hB => Nat.lt_of_lt_of_le (hm.inw b B hB) h.size, fun b k hk => let ⟨B, h1, h2⟩ := hm.blk b k hk; ⟨B, h1, h2.mono r.le_refl (h.block _ (hm.inw b B h1))⟩, hm.inj, hm.whole⟩
  next := Nat.le_refl _
  os := h.os
  tape := h.tape
  output := h.output
  size := h.size
  keep := fun cb hc _ => h.block cb hc
  own := fun b k B hb hB => .inr ⟨b, k, B, hb, hB, rfl, fun e => e⟩
  new := fun _ _ hB => .inl hB

def specRepeat : List AVal → AMem → Out AVal
  | [.str s, .int .i64 n], m => match Nat.ble (s.length * n.toNat) 1073741824 && Nat.ble n.toNat 1073741824 && decide (0 ≤ n) with
    | true => .ok (.str (Lib.repeatL s n.toNat)) m
    | false => .fail "spec"
  | _, _ => .fail "spec"

theorem specRepeat_ok {f : FuncId} (hent : ∀ args w, (callFunc f args).run P w = .ok (.enter f args) w)
    (h : ∀ (s : ByteArray) (c : Nat) (w : World), c ≤ 9223372036854775807 → s.size * c ≤ 140737488355328 →
      Calls P f #[.string s, .int .i64 c] w fun e w' => e = .returned (.string ⟨(Lib.repeatL s.data.toList c).toArray⟩) ∧ Go.RowKit.Below w.heap.size w w') : CallOk T P f specRepeat := by
  intro r w m args args' hg hm ha hgood
  unfold specRepeat at hgood ⊢
  split at hgood
  · rename_i s n
    split at hgood
    · rename_i hle
      rw [Bool.and_eq_true, Bool.and_eq_true, decide_eq_true_eq] at hle
      obtain ⟨⟨h1, h2⟩, h3⟩ := hle
      have h1 := Nat.le_of_ble_eq_true h1
      have h2 := Nat.le_of_ble_eq_true h2
      obtain ⟨x', t', e1, e2, e3⟩ := ha.cons_inv
      obtain ⟨y', t2, e4, e5, e6⟩ := e3.cons_inv
      obtain ⟨b, hb, hd⟩ := e2.str_inv
      rw [e6.nil_inv] at e4
      rw [e4, hb, e5.int_inv] at e1
      have : args' = #[.string b, .int .i64 n] := Array.toList_inj.1 e1
      subst this
      have hsz : b.size = s.length := by
        have : b.size = b.data.toList.length := by simp
        rw [this, hd]
      have := h b n.toNat w (by omega) (by rw [hsz]; omega)
      rw [Int.toNat_of_nonneg h3] at this
      refine .inr ⟨hent _ _, this.mono fun en w' hp => ?_⟩
      obtain ⟨hp1, hp2⟩ := hp
      subst hp1
      exact ⟨r, _, rfl, .str _ _ (by rw [hd]), Step.below hm hp2⟩
    · exact hgood.elim
  · exact hgood.elim
end
end
end Ev
end Go.Proofs.YtfddpaljmihinaaGreatDoor
