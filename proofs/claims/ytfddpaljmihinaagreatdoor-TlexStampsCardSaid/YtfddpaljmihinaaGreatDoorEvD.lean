/-
  Functions that the evaluator takes by a specification. (Conditions: none beyond what each theorem asks.)
-/
import Derived.Test.YtfddpaljmihinaaGreatDoorEvC
import Derived.Laws.Externs
import Derived.Lib.Bytealg
import Derived.Lib.MakeNoZero
import Derived.Lib.Index
import Derived.Lib.Repeat
import Derived.Below
import Derived.Lib.Strings
import Derived.Sort.KeysCollected
import Derived.StringKeys
import Derived.Maps.Own
/-! ## EvSpecs -/
namespace Go.Proofs.YtfddpaljmihinaaGreatDoor
namespace Ev
open Go
noncomputable section

def idxByte (c : UInt8) : List UInt8 → Int → Int
  | [], _ => -1
  | x :: r, i => match x == c with
    | true => i
    | false => idxByte c r (i + 1)

theorem idxByte_find (c : UInt8) (l : List UInt8) : ∀ k : Nat, idxByte c l k = match (List.range l.length).find? fun i => l[i]! == c with | some i => ((k + i : Nat) : Int) | none => -1 := by
  induction l with
  | nil => intro k; rfl
  | cons x r ih =>
    intro k
    simp only [idxByte, List.length_cons, List.range_succ_eq_map, List.find?_cons]
    have h0 : ((x :: r)[0]! == c) = (x == c) := rfl
    rw [h0]
    cases hx : x == c with
    | true => simp
    | false =>
      show idxByte c r ((k : Int) + 1) = _
      rw [show ((k : Int) + 1) = ((k + 1 : Nat) : Int) by simp, ih (k + 1), List.find?_map]
      have e : ((fun i => (x :: r)[i]! == c) ∘ Nat.succ) = fun i => r[i]! == c := by
        funext i
        simp [Function.comp]
      rw [e]
      cases (List.range r.length).find? fun i => r[i]! == c with
      | none => rfl
      | some i =>
        show ((k + 1 + i : Nat) : Int) = ((k + (i + 1) : Nat) : Int)
        congr 1; omega

theorem firstIdx_eq (s : ByteArray) (c : UInt8) : firstIdx s c = idxByte c s.data.toList 0 := by
  have : idxByte c s.data.toList 0 = _ := idxByte_find c s.data.toList 0
  simp only [Nat.zero_add] at this
  rw [this]
  unfold firstIdx
  have e : (fun (i : Nat) => s[i]! == c) = fun (i : Nat) => s.data.toList[i]! == c := by
    funext i
    congr 1
    by_cases h : i < s.size
    · simp [getElem!_pos, h]
      rfl
    · simp [getElem!_neg, h]
  rw [e]
  have hs : s.size = s.data.toList.length := by simp
  rw [hs]
  cases (List.range s.data.toList.length).find? fun i => s.data.toList[i]! == c <;> simp

section
variable {T : Tab} {P : Program}

theorem extern_ok {f : FuncId} {fn : Func} {e : Array Value → Sem Value} {F : List AVal → AMem → Out AVal} (hf : P.funcs[f]? = some fn) (hname : (fn.name == "runtime.NumGoroutine") = false)
    (hb : fn.body.isNone = true) (hn : Extern.findNext fn = none) (he : Extern.find fn = some e)
    (h : ∀ (r : Ren) (w : World) (m : AMem) (args : List AVal) (args' : Array Value), GlobOk T r → MemRel r m.next m.get w → VsRel r args args'.toList → (F args m).good →
      ∃ v w', (e args').run P w = .ok v w' ∧ Post r m w (F args m) (.returned v) w') : CallOk T P f F := by
  intro r w m args args' hg hm ha hgood
  obtain ⟨v, w', e1, e2⟩ := h r w m args args' hg hm ha hgood
  exact .inl ⟨v, w', by rw [run_callFunc_extern hf hname hb hn he, e1]; rfl, e2⟩

def specSame : List AVal → AMem → Out AVal
  | [x], m => .ok x m
  | _, _ => .fail "spec"

def specIndexByte : List AVal → AMem → Out AVal
  | [.str s, .int .u8 c], m => .ok (.int .i64 (idxByte (UInt8.ofNat c.toNat) s 0)) m
  | _, _ => .fail "spec"

theorem specSame_ok {f : FuncId} {fn : Func} (hf : P.funcs[f]? = some fn) (hname : (fn.name == "runtime.NumGoroutine") = false)
    (hb : fn.body.isNone = true) (hn : Extern.findNext fn = none) (he : Extern.find fn = some Extern.AbiNoEscape.same) : CallOk T P f specSame := by
  refine extern_ok hf hname hb hn he fun r w m args args' _ hm ha hgood => ?_
  unfold specSame at hgood ⊢
  split at hgood
  · rename_i x _
    obtain ⟨x', t', e1, e2, e3⟩ := ha.cons_inv
    rw [e3.nil_inv] at e1
    have : args' = #[x'] := Array.toList_inj.1 e1
    subst this
    exact ⟨x', w, rfl, r, x', rfl, e2, .refl hm⟩
  · exact hgood.elim

theorem specIndexByte_ok {f : FuncId} {fn : Func} (hf : P.funcs[f]? = some fn) (hname : (fn.name == "runtime.NumGoroutine") = false)
    (hb : fn.body.isNone = true) (hn : Extern.findNext fn = none) (he : Extern.find fn = some Extern.BytealgIndexByte.indexByte) : CallOk T P f specIndexByte := by
  refine extern_ok hf hname hb hn he fun r w m args args' _ hm ha hgood => ?_
  unfold specIndexByte at hgood ⊢
  split at hgood
  · rename_i s c
    obtain ⟨x', t', e1, e2, e3⟩ := ha.cons_inv
    obtain ⟨y', t2, e4, e5, e6⟩ := e3.cons_inv
    obtain ⟨b, hb', hd⟩ := e2.str_inv
    rw [e6.nil_inv] at e4
    rw [e4, hb', e5.int_inv] at e1
    have : args' = #[.string b, .int .u8 c] := Array.toList_inj.1 e1
    subst this
    refine ⟨_, w, run_indexByte_string b c w, r, _, rfl, ?_, .refl hm⟩
    rw [firstIdx_eq, hd]
    exact .int _ _
  · exact hgood.elim

def countByteE (c : UInt8) : List UInt8 → Nat
  | [] => 0
  | x :: r => match x == c with
    | true => countByteE c r + 1
    | false => countByteE c r

theorem countByteE_eq (c : UInt8) : ∀ l, countByteE c l = Lib.countByte l c
  | [] => rfl
  | x :: r => by
    unfold Lib.countByte
    rw [List.count_cons]
    have := countByteE_eq c r
    unfold Lib.countByte at this
    simp only [countByteE]
    split
    · rename_i h; rw [h, this]; rfl
    · rename_i h; rw [h, this]; rfl

def specCount : List AVal → AMem → Out AVal
  | [.str s, .int .u8 c], m => .ok (.int .i64 (Int.ofNat (countByteE (UInt8.ofNat c.toNat) s))) m
  | _, _ => .fail "spec"

theorem specCount_ok {f : FuncId} {fn : Func} (hf : P.funcs[f]? = some fn) (hname : (fn.name == "runtime.NumGoroutine") = false)
    (hb : fn.body.isNone = true) (hn : Extern.findNext fn = none) (he : Extern.find fn = some Extern.BytealgCount.count) : CallOk T P f specCount := by
  refine extern_ok hf hname hb hn he fun r w m args args' _ hm ha hgood => ?_
  unfold specCount at hgood ⊢
  split at hgood
  · rename_i s c
    obtain ⟨x', t', e1, e2, e3⟩ := ha.cons_inv
    obtain ⟨y', t2, e4, e5, e6⟩ := e3.cons_inv
    obtain ⟨b, hb', hd⟩ := e2.str_inv
    rw [e6.nil_inv] at e4
    rw [e4, hb', e5.int_inv] at e1
    have : args' = #[.string b, .int .u8 c] := Array.toList_inj.1 e1
    subst this
    refine ⟨_, w, Lib.run_countString b c w, r, _, rfl, ?_, .refl hm⟩
    rw [← countByteE_eq, hd]
    exact .int _ _
  · exact hgood.elim

/-- Bytes of whatever content. -/
def specMake (e : TypeId) : List AVal → AMem → Out AVal
  | [.int .i64 n], m => match Nat.ble n.toNat 1073741824 && decide (0 ≤ n) with
    | true => .ok (.slice m.next 0 n.toNat 1 (.least n.toNat)) (m.new (.cells e (repeatCells [.any] n.toNat) false 0 false))
    | false => .fail "spec"
  | _, _ => .fail "spec"

theorem specMake_ok {f : FuncId} {fn : Func} {ps : Array TypeId} {t e : TypeId} (hu : P.underlying t = some (.slice e)) (_hc : P.cellsOf e = 1) (hf : P.funcs[f]? = some fn) (hname : (fn.name == "runtime.NumGoroutine") = false)
    (hb : fn.body.isNone = true) (hn : Extern.findNext fn = none) (he : Extern.find fn = some (Extern.BytealgMakeNoZero.makeNoZero ps #[t])) : CallOk T P f (specMake e) := by
  refine extern_ok hf hname hb hn he fun r w m args args' _ hm ha hgood => ?_
  unfold specMake at hgood ⊢
  split at hgood
  · rename_i n
    split at hgood
    · rename_i hle
      rw [Bool.and_eq_true, decide_eq_true_eq] at hle
      have hn1 := Nat.le_of_ble_eq_true hle.1
      obtain ⟨x', t', e1, e2, e3⟩ := ha.cons_inv
      rw [e3.nil_inv, e2.int_inv] at e1
      have : args' = #[.int .i64 n] := Array.toList_inj.1 e1
      subst this
      obtain ⟨cs, hrun, hsz, _⟩ := Lib.run_makeNoZero (P := P) w ps t e hu n.toNat (by omega)
      rw [Int.toNat_of_nonneg hle.2] at hrun
      obtain ⟨z1, z2⟩ := hm.none_at (Nat.le_refl m.next)
      have hmade : Made r m.next w (.cells e (repeatCells [.any] n.toNat) false 0 false) (.slice m.next 0 n.toNat 1 (.least n.toNat)) (.slice (some ⟨w.heap.size, 0, none⟩) n.toNat cs.size) (w.drew.drew.alloc (.cells cs e)) ⟨w.heap.size, 0, cs.size⟩ := by
        refine made_row false (fr := (0, 0)) z1 rfl rfl rfl rfl ?_ (by simp [repeatCells_length]; omega) (fun j _ h => by simp at h) ?_ (fun h => Bool.noConfusion h)
        · refine ⟨by simp [repeatCells_length]; omega, fun i u u' a b => ?_⟩
          have := repeatCells_get [.any] _ i u a
          simp [Nat.mod_one] at this
          subst this
          exact .any _
        · exact .slice m.next 0 n.toNat 1 (.least n.toNat) ⟨w.heap.size, 0, cs.size⟩ ⟨w.heap.size, 0, none⟩ cs.size (Ren.ext_same r m.next _) hsz hsz (.inr ⟨rfl, by simp⟩)
      exact ⟨_, _, hrun, r.ext m.next ⟨w.heap.size, 0, cs.size⟩, _, rfl, hmade.val, by rw [AMem.get_new]; exact hmade.new hm z2⟩
    · exact hgood.elim
  · exact hgood.elim

end
end
end Ev
end Go.Proofs.YtfddpaljmihinaaGreatDoor

/-! ## EvSpecs2 -/
namespace Go.Proofs.YtfddpaljmihinaaGreatDoor
namespace Ev
open Go
noncomputable section

def idxStr (p : List UInt8) : List UInt8 → Nat → Int
  | [], k => match p.isEmpty with
    | true => k
    | false => -1
  | b :: l, k => match p.isPrefixOf (b :: l) with
    | true => k
    | false => idxStr p l (k + 1)

theorem idxStr_eq (p : List UInt8) : ∀ (l : List UInt8) (k : Nat), idxStr p l k = if Lib.index l p = -1 then -1 else Lib.index l p + k
  | [], k => by
    unfold idxStr Lib.index
    cases p with
    | nil => simp
    | cons a b => simp
  | b :: l, k => by
    unfold idxStr Lib.index
    have ih := idxStr_eq p l (k + 1)
    have hge := Lib.index_ge l p
    cases hp : p.isPrefixOf (b :: l) with
    | true => simp
    | false =>
      simp only [Bool.false_eq_true, if_false]
      rw [ih]
      by_cases c : Lib.index l p = -1
      · simp [c]
      · have h2 : ¬ (Lib.index l p + 1 = -1) := by omega
        simp [c, h2]
        omega

section
variable {T : Tab} {P : Program}

/-- 'MaxLen' must bear a number: whatever. -/
def specIndex : List AVal → AMem → Out AVal
  | [.str s, .str p], m => match m.get 0 with
    | some (.cells _ (.int .i64 _ :: _) _ _ _) => match Nat.blt s.length 4294967281 with
      | true => .ok (.int .i64 (idxStr p s 0)) m
      | false => .fail "spec"
    | _ => .fail "spec"
  | _, _ => .fail "spec"

theorem specIndex_ok {f : FuncId} (hg0 : T.glob 0 = true) (hent : ∀ args w, (callFunc f args).run P w = .ok (.enter f args) w)
    (h : ∀ (s sub : ByteArray) (m : Int) (w : World), s.size < 4294967281 → w.cell? ⟨0, 0, none⟩ = some (.int .i64 m) →
      Calls P f #[.string s, .string sub] w fun e w' => e = .returned (.int .i64 (Lib.index s.data.toList sub.data.toList)) ∧ w' = w) : CallOk T P f specIndex := by
  intro r w m args args' hg hm ha hgood
  unfold specIndex at hgood ⊢
  split at hgood
  · rename_i s p
    split at hgood
    · rename_i e z rest ro frz wh h0
      split at hgood
      · rename_i hlt
        have hlt' : s.length < 4294967281 := Nat.lt_of_succ_le (Nat.le_of_ble_eq_true hlt)
        obtain ⟨x', t', e1, e2, e3⟩ := ha.cons_inv
        obtain ⟨y', t2, e4, e5, e6⟩ := e3.cons_inv
        obtain ⟨b1, hb1, hd1⟩ := e2.str_inv
        obtain ⟨b2, hb2, hd2⟩ := e5.str_inv
        rw [e6.nil_inv] at e4
        rw [e4, hb1, hb2] at e1
        have : args' = #[.string b1, .string b2] := Array.toList_inj.1 e1
        subst this
        obtain ⟨B, hB, hcb, hbase⟩ := hg 0 hg0
        obtain ⟨B', hB', c, fr, q1, q2, q3, q4, q5⟩ := hm.blk 0 _ h0
        rw [hB] at hB'
        cases hB'
        rw [hcb] at q1
        have hcell : w.cell? ⟨0, 0, none⟩ = some (.int .i64 z) := by
          obtain ⟨v', g1, g2⟩ := q4.get (i := 0) rfl
          rw [g2.int_inv, hbase] at g1
          simp [World.cell?, q1]
          simpa using g1
        have hsz : b1.size < 4294967281 := by
          have : b1.size = b1.data.toList.length := by simp
          rw [this, hd1]; exact hlt'
        refine .inr ⟨hent _ _, (h b1 b2 z w hsz hcell).mono fun en w' hp => ?_⟩
        obtain ⟨hp1, hp2⟩ := hp
        subst hp1; subst hp2
        refine ⟨r, _, rfl, ?_, .refl hm⟩
        rw [idxStr_eq, hd1, hd2]
        have : (if Lib.index s p = -1 then -1 else Lib.index s p + ((0 : Nat) : Int)) = Lib.index s p := by split <;> simp_all
        rw [this]
        exact .int _ _
      · exact hgood.elim
    · exact hgood.elim
  · exact hgood.elim

theorem Step.below {r : Ren} {n : Nat} {g : Nat → Option ABlk} {w w' : World} (hm : MemRel r n g w) (h : Go.RowKit.Below w.heap.size w w') : Step r n g w r n g w' where
  le := r.le_refl
  mem := ⟨hm.fresh, fun b B hB => Nat.lt_of_lt_of_le (hm.inw b B hB) h.size, fun b k hk => let ⟨B, h1, h2⟩ := hm.blk b k hk; ⟨B, h1, h2.mono r.le_refl (h.block _ (hm.inw b B h1))⟩, hm.inj, hm.whole⟩
  next := Nat.le_refl _
  os := h.os
  tape := h.tape
  output := h.output
  size := h.size
  keep := fun cb hc _ => h.block cb hc
  own := fun b k B hb hB => .inr ⟨b, k, B, hb, hB, rfl, fun e => e⟩
  new := fun _ _ hB => .inl hB

def specRepeat : List AVal → AMem → Out AVal
  | [.str s, .int .i64 n], m => match Nat.ble (s.length * n.toNat) 1073741824 && Nat.ble n.toNat 1073741824 && decide (0 ≤ n) with
    | true => .ok (.str (Lib.repeatL s n.toNat)) m
    | false => .fail "spec"
  | _, _ => .fail "spec"

theorem specRepeat_ok {f : FuncId} (hent : ∀ args w, (callFunc f args).run P w = .ok (.enter f args) w)
    (h : ∀ (s : ByteArray) (c : Nat) (w : World), c ≤ 9223372036854775807 → s.size * c ≤ 140737488355328 →
      Calls P f #[.string s, .int .i64 c] w fun e w' => e = .returned (.string ⟨(Lib.repeatL s.data.toList c).toArray⟩) ∧ Go.RowKit.Below w.heap.size w w') : CallOk T P f specRepeat := by
  intro r w m args args' hg hm ha hgood
  unfold specRepeat at hgood ⊢
  split at hgood
  · rename_i s n
    split at hgood
    · rename_i hle
      rw [Bool.and_eq_true, Bool.and_eq_true, decide_eq_true_eq] at hle
      obtain ⟨⟨h1, h2⟩, h3⟩ := hle
      have h1 := Nat.le_of_ble_eq_true h1
      have h2 := Nat.le_of_ble_eq_true h2
      obtain ⟨x', t', e1, e2, e3⟩ := ha.cons_inv
      obtain ⟨y', t2, e4, e5, e6⟩ := e3.cons_inv
      obtain ⟨b, hb, hd⟩ := e2.str_inv
      rw [e6.nil_inv] at e4
      rw [e4, hb, e5.int_inv] at e1
      have : args' = #[.string b, .int .i64 n] := Array.toList_inj.1 e1
      subst this
      have hsz : b.size = s.length := by
        have : b.size = b.data.toList.length := by simp
        rw [this, hd]
      have := h b n.toNat w (by omega) (by rw [hsz]; omega)
      rw [Int.toNat_of_nonneg h3] at this
      refine .inr ⟨hent _ _, this.mono fun en w' hp => ?_⟩
      obtain ⟨hp1, hp2⟩ := hp
      subst hp1
      exact ⟨r, _, rfl, .str _ _ (by rw [hd]), Step.below hm hp2⟩
    · exact hgood.elim
  · exact hgood.elim

end
end
end Ev
end Go.Proofs.YtfddpaljmihinaaGreatDoor

/-! ## EvSpecs3 -/
namespace Go.Proofs.YtfddpaljmihinaaGreatDoor
namespace Ev
open Go
noncomputable section

end
end Ev
end Go.Proofs.YtfddpaljmihinaaGreatDoor

/-! ## EvSorted -/
namespace Go.Proofs.YtfddpaljmihinaaGreatDoor
namespace Ev
open Go Go.Maps Go.RowKit
noncomputable section

/-! ### Sorting, plainly -/

/-! ### The specification -/

end
end Ev
end Go.Proofs.YtfddpaljmihinaaGreatDoor
