/-
  Functions that the evaluator takes by a specification. (Conditions: none beyond what each theorem asks.)
-/
import Derived.Test.YtjmapihogpdocaaGreatDoorEvC
import Derived.Laws.Externs
import Derived.Lib.Bytealg
import Derived.Lib.MakeNoZero
import Derived.Lib.Index
import Derived.Lib.Repeat
import Derived.Below
import Derived.Lib.Strings
import Derived.Sort.KeysCollected
import Derived.StringKeys
import Derived.Maps.Own
/-! ## EvSpecs -/
namespace Go.Proofs.YtjmapihogpdocaaGreatDoor
namespace Ev
open Go
noncomputable section

def idxByte (c : UInt8) : List UInt8 → Int → Int
  | [], _ => -1
  | x :: r, i => match x == c with
    | true => i
    | false => idxByte c r (i + 1)

theorem idxByte_find (c : UInt8) (l : List UInt8) : ∀ k : Nat, idxByte c l k = match (List.range l.length).find? fun i => l[i]! == c with | some i => ((k + i : Nat) : Int) | none => -1 := by
  induction l with
  | nil => intro k; rfl
  | cons x r ih =>
    intro k
    simp only [idxByte, List.length_cons, List.range_succ_eq_map, List.find?_cons]
    have h0 : ((x :: r)[0]! == c) = (x == c) := rfl
    rw [h0]
    cases hx : x == c with
    | true => simp
    | false =>
      show idxByte c r ((k : Int) + 1) = _
      rw [show ((k : Int) + 1) = ((k + 1 : Nat) : Int) by simp, ih (k + 1), List.find?_map]
      have e : ((fun i => (x :: r)[i]! == c) ∘ Nat.succ) = fun i => r[i]! == c := by
        funext i
        simp [Function.comp]
      rw [e]
      cases (List.range r.length).find? fun i => r[i]! == c with
      | none => rfl
      | some i =>
        show ((k + 1 + i : Nat) : Int) = ((k + (i + 1) : Nat) : Int)
        congr 1; omega

theorem firstIdx_eq (s : ByteArray) (c : UInt8) : firstIdx s c = idxByte c s.data.toList 0 := by
  have : idxByte c s.data.toList 0 = _ := idxByte_find c s.data.toList 0
  simp only [Nat.zero_add] at this
  rw [this]
  unfold firstIdx
  have e : (fun (i : Nat) => s[i]! == c) = fun (i : Nat) => s.data.toList[i]! == c := by
    funext i
    congr 1
    by_cases h : i < s.size
    · simp [getElem!_pos, h]
      rfl
    · simp [getElem!_neg, h]
  rw [e]
  have hs : s.size = s.data.toList.length := by simp
  rw [hs]
  cases (List.range s.data.toList.length).find? fun i => s.data.toList[i]! == c <;> simp

section
variable {T : Tab} {P : Program}

theorem extern_ok {f : FuncId} {fn : Func} {e : Array Value → Sem Value} {F : List AVal → AMem → Out AVal} (hf : P.funcs[f]? = some fn) (hname : (fn.name == "runtime.NumGoroutine") = false)
    (hb : fn.body.isNone = true) (hn : Extern.findNext fn = none) (he : Extern.find fn = some e)
    (h : ∀ (r : Ren) (w : World) (m : AMem) (args : List AVal) (args' : Array Value), GlobOk T r → MemRel r m.next m.get w → VsRel r args args'.toList → (F args m).good →
      ∃ v w', (e args').run P w = .ok v w' ∧ Post r m w (F args m) (.returned v) w') : CallOk T P f F := by
  intro r w m args args' hg hm ha hgood
  obtain ⟨v, w', e1, e2⟩ := h r w m args args' hg hm ha hgood
  exact .inl ⟨v, w', by rw [run_callFunc_extern hf hname hb hn he, e1]; rfl, e2⟩

def specSame : List AVal → AMem → Out AVal
  | [x], m => .ok x m
  | _, _ => .fail "spec"

def specIndexByte : List AVal → AMem → Out AVal
  | [.str s, .int .u8 c], m => .ok (.int .i64 (idxByte (UInt8.ofNat c.toNat) s 0)) m
  | _, _ => .fail "spec"

theorem specSame_ok {f : FuncId} {fn : Func} (hf : P.funcs[f]? = some fn) (hname : (fn.name == "runtime.NumGoroutine") = false)
    (hb : fn.body.isNone = true) (hn : Extern.findNext fn = none) (he : Extern.find fn = some Extern.AbiNoEscape.same) : CallOk T P f specSame := by
  refine extern_ok hf hname hb hn he fun r w m args args' _ hm ha hgood => ?_
  unfold specSame at hgood ⊢
  split at hgood
  · rename_i x _
    obtain ⟨x', t', e1, e2, e3⟩ := ha.cons_inv
    rw [e3.nil_inv] at e1
    have : args' = #[x'] := Array.toList_inj.1 e1
    subst this
    exact ⟨x', w, rfl, r, x', rfl, e2, .refl hm⟩
  · exact hgood.elim

theorem specIndexByte_ok {f : FuncId} {fn : Func} (hf : P.funcs[f]? = some fn) (hname : (fn.name == "runtime.NumGoroutine") = false)
    (hb : fn.body.isNone = true) (hn : Extern.findNext fn = none) (he : Extern.find fn = some Extern.BytealgIndexByte.indexByte) : CallOk T P f specIndexByte := by
  refine extern_ok hf hname hb hn he fun r w m args args' _ hm ha hgood => ?_
  unfold specIndexByte at hgood ⊢
  split at hgood
  · rename_i s c
    obtain ⟨x', t', e1, e2, e3⟩ := ha.cons_inv
    obtain ⟨y', t2, e4, e5, e6⟩ := e3.cons_inv
    obtain ⟨b, hb', hd⟩ := e2.str_inv
    rw [e6.nil_inv] at e4
    rw [e4, hb', e5.int_inv] at e1
    have : args' = #[.string b, .int .u8 c] := Array.toList_inj.1 e1
    subst this
    refine ⟨_, w, run_indexByte_string b c w, r, _, rfl, ?_, .refl hm⟩
    rw [firstIdx_eq, hd]
    exact .int _ _
  · exact hgood.elim

def countByteE (c : UInt8) : List UInt8 → Nat
  | [] => 0
  | x :: r => match x == c with
    | true => countByteE c r + 1
    | false => countByteE c r

theorem countByteE_eq (c : UInt8) : ∀ l, countByteE c l = Lib.countByte l c
  | [] => rfl
  | x :: r => by
    unfold Lib.countByte
    rw [List.count_cons]
    have := countByteE_eq c r
    unfold Lib.countByte at this
    simp only [countByteE]
    split
    · rename_i h; rw [h, this]; rfl
    · rename_i h; rw [h, this]; rfl

def specCount : List AVal → AMem → Out AVal
  | [.str s, .int .u8 c], m => .ok (.int .i64 (Int.ofNat (countByteE (UInt8.ofNat c.toNat) s))) m
  | _, _ => .fail "spec"

theorem specCount_ok {f : FuncId} {fn : Func} (hf : P.funcs[f]? = some fn) (hname : (fn.name == "runtime.NumGoroutine") = false)
    (hb : fn.body.isNone = true) (hn : Extern.findNext fn = none) (he : Extern.find fn = some Extern.BytealgCount.count) : CallOk T P f specCount := by
  refine extern_ok hf hname hb hn he fun r w m args args' _ hm ha hgood => ?_
  unfold specCount at hgood ⊢
  split at hgood
  · rename_i s c
    obtain ⟨x', t', e1, e2, e3⟩ := ha.cons_inv
    obtain ⟨y', t2, e4, e5, e6⟩ := e3.cons_inv
    obtain ⟨b, hb', hd⟩ := e2.str_inv
    rw [e6.nil_inv] at e4
    rw [e4, hb', e5.int_inv] at e1
    have : args' = #[.string b, .int .u8 c] := Array.toList_inj.1 e1
    subst this
    refine ⟨_, w, Lib.run_countString b c w, r, _, rfl, ?_, .refl hm⟩
    rw [← countByteE_eq, hd]
    exact .int _ _
  · exact hgood.elim

/-- Bytes of whatever content. -/
def specMake (e : TypeId) : List AVal → AMem → Out AVal
  | [.int .i64 n], m => match Nat.ble n.toNat 1073741824 && decide (0 ≤ n) with
    | true => .ok (.slice m.next 0 n.toNat 1 (.least n.toNat)) (m.new (.cells e (repeatCells [.any] n.toNat) false 0 false))
    | false => .fail "spec"
  | _, _ => .fail "spec"

theorem specMake_ok {f : FuncId} {fn : Func} {ps : Array TypeId} {t e : TypeId} (hu : P.underlying t = some (.slice e)) (_hc : P.cellsOf e = 1) (hf : P.funcs[f]? = some fn) (hname : (fn.name == "runtime.NumGoroutine") = false)
    (hb : fn.body.isNone = true) (hn : Extern.findNext fn = none) (he : Extern.find fn = some (Extern.BytealgMakeNoZero.makeNoZero ps #[t])) : CallOk T P f (specMake e) := by
  refine extern_ok hf hname hb hn he fun r w m args args' _ hm ha hgood => ?_
  unfold specMake at hgood ⊢
  split at hgood
  · rename_i n
    split at hgood
    · rename_i hle
      rw [Bool.and_eq_true, decide_eq_true_eq] at hle
      have hn1 := Nat.le_of_ble_eq_true hle.1
      obtain ⟨x', t', e1, e2, e3⟩ := ha.cons_inv
      rw [e3.nil_inv, e2.int_inv] at e1
      have : args' = #[.int .i64 n] := Array.toList_inj.1 e1
      subst this
      obtain ⟨cs, hrun, hsz, _⟩ := Lib.run_makeNoZero (P := P) w ps t e hu n.toNat (by omega)
      rw [Int.toNat_of_nonneg hle.2] at hrun
      obtain ⟨z1, z2⟩ := hm.none_at (Nat.le_refl m.next)
      have hmade : Made r m.next w (.cells e (repeatCells [.any] n.toNat) false 0 false) (.slice m.next 0 n.toNat 1 (.least n.toNat)) (.slice (some ⟨w.heap.size, 0, none⟩) n.toNat cs.size) (w.drew.drew.alloc (.cells cs e)) ⟨w.heap.size, 0, cs.size⟩ := by
        refine made_row false (fr := (0, 0)) z1 rfl rfl rfl rfl ?_ (by simp [repeatCells_length]; omega) (fun j _ h => by simp at h) ?_ (fun h => Bool.noConfusion h)
        · refine ⟨by simp [repeatCells_length]; omega, fun i u u' a b => ?_⟩
          have := repeatCells_get [.any] _ i u a
          simp [Nat.mod_one] at this
          subst this
          exact .any _
        · exact .slice m.next 0 n.toNat 1 (.least n.toNat) ⟨w.heap.size, 0, cs.size⟩ ⟨w.heap.size, 0, none⟩ cs.size (Ren.ext_same r m.next _) hsz hsz (.inr ⟨rfl, by simp⟩)
      exact ⟨_, _, hrun, r.ext m.next ⟨w.heap.size, 0, cs.size⟩, _, rfl, hmade.val, by rw [AMem.get_new]; exact hmade.new hm z2⟩
    · exact hgood.elim
  · exact hgood.elim
/-! ### maps.clone -/
theorem run_clone (w : World) {b ck : Nat} {es : Array MapEntry} (t : TypeId) (h : w.heap[b]? = some (.map es ck)) :
    (Extern.MapsClone.clone #[.iface t (.map (some b))]).run P w = .ok (.iface t (.map (some w.heap.size))) { w with heap := w.heap.push (.map es ck) } := by
  have e : Extern.MapsClone.clone #[.iface t (.map (some b))] = (getObj b >>= fun o => match o with
      | .map entries clock => (newObj (.map entries clock) >>= fun n => pure (.iface t (.map (some n))))
      | _ => stuck "maps.clone: a map expected") := rfl
  rw [e]
  simp only [Sem.run_bind, run_getMap h, Result.andThen_ok]
  simp [newObj, Sem.run]

def specClone : List AVal → AMem → Out AVal
  | [.iface t (.map b)], m => match m.get b with
    | some (.map es bs ck) => .ok (.iface t (.map m.next)) (m.new (.map es bs ck))
    | _ => .fail "clone"
  | _, _ => .fail "clone"

theorem specClone_ok {f : FuncId} {fn : Func} (hf : P.funcs[f]? = some fn) (hname : (fn.name == "runtime.NumGoroutine") = false)
    (hb : fn.body.isNone = true) (hn : Extern.findNext fn = none) (he : Extern.find fn = some Extern.MapsClone.clone) : CallOk T P f specClone := by
  refine extern_ok hf hname hb hn he fun r w m args args' _ hm ha hgood => ?_
  unfold specClone at hgood ⊢
  split at hgood
  · rename_i t b
    split at hgood
    · rename_i es bs ck hg
      obtain ⟨x', t', e1, e2, e3⟩ := ha.cons_inv
      obtain ⟨u', rfl, hu⟩ := e2.iface_inv
      obtain ⟨B, hB, rfl⟩ := hu.map_inv
      rw [e3.nil_inv] at e1
      have : args' = #[.iface t (.map (some B.cb))] := Array.toList_inj.1 e1
      subst this
      obtain ⟨B', hB', es', p1, p2, p3, p4⟩ := hm.blk _ _ hg
      rw [hB] at hB'
      cases hB'
      obtain ⟨z1, z2⟩ := hm.none_at (Nat.le_refl m.next)
      have hle := Ren.ext_le (B := ⟨w.heap.size, 0, 0⟩) z1
      have hmade : Made r m.next w (.map es bs ck) (.map m.next) (.map (some w.heap.size)) { w with heap := w.heap.push (.map es' ck) } ⟨w.heap.size, 0, 0⟩ :=
        ⟨rfl, ⟨_, rfl⟩, rfl, rfl, rfl, ⟨es', by simp, ⟨p2.1, fun i e e' a b => ⟨(p2.2 i e e' a b).1.mono hle, (p2.2 i e e' a b).2.mono hle⟩⟩, p3, p4⟩, .map m.next _ (Ren.ext_same r _ _), fun e vs ro frz h => by cases h⟩
      exact ⟨_, _, run_clone w t p1, r.ext m.next _, _, rfl, .iface t _ _ hmade.val, by rw [AMem.get_new]; exact hmade.new hm z2⟩
    · exact hgood.elim
  · exact hgood.elim
end
end
end Ev
end Go.Proofs.YtjmapihogpdocaaGreatDoor

/-! ## EvSpecs2 -/
namespace Go.Proofs.YtjmapihogpdocaaGreatDoor
namespace Ev
open Go
noncomputable section

def idxStr (p : List UInt8) : List UInt8 → Nat → Int
  | [], k => match p.isEmpty with
    | true => k
    | false => -1
  | b :: l, k => match p.isPrefixOf (b :: l) with
    | true => k
    | false => idxStr p l (k + 1)

theorem idxStr_eq (p : List UInt8) : ∀ (l : List UInt8) (k : Nat), idxStr p l k = if Lib.index l p = -1 then -1 else Lib.index l p + k
  | [], k => by
    unfold idxStr Lib.index
    cases p with
    | nil => simp
    | cons a b => simp
  | b :: l, k => by
    unfold idxStr Lib.index
    have ih := idxStr_eq p l (k + 1)
    have hge := Lib.index_ge l p
    cases hp : p.isPrefixOf (b :: l) with
    | true => simp
    | false =>
      simp only [Bool.false_eq_true, if_false]
      rw [ih]
      by_cases c : Lib.index l p = -1
      · simp [c]
      · have h2 : ¬ (Lib.index l p + 1 = -1) := by omega
        simp [c, h2]
        omega

section
variable {T : Tab} {P : Program}

/-- 'MaxLen' must bear a number: whatever. -/
def specIndex : List AVal → AMem → Out AVal
  | [.str s, .str p], m => match m.get 0 with
    | some (.cells _ (.int .i64 _ :: _) _ _ _) => match Nat.blt s.length 4294967281 with
      | true => .ok (.int .i64 (idxStr p s 0)) m
      | false => .fail "spec"
    | _ => .fail "spec"
  | _, _ => .fail "spec"

theorem specIndex_ok {f : FuncId} (hg0 : T.glob 0 = true) (hent : ∀ args w, (callFunc f args).run P w = .ok (.enter f args) w)
    (h : ∀ (s sub : ByteArray) (m : Int) (w : World), s.size < 4294967281 → w.cell? ⟨0, 0, none⟩ = some (.int .i64 m) →
      Calls P f #[.string s, .string sub] w fun e w' => e = .returned (.int .i64 (Lib.index s.data.toList sub.data.toList)) ∧ w' = w) : CallOk T P f specIndex := by
  intro r w m args args' hg hm ha hgood
  unfold specIndex at hgood ⊢
  split at hgood
  · rename_i s p
    split at hgood
    · rename_i e z rest ro frz wh h0
      split at hgood
      · rename_i hlt
        have hlt' : s.length < 4294967281 := Nat.lt_of_succ_le (Nat.le_of_ble_eq_true hlt)
        obtain ⟨x', t', e1, e2, e3⟩ := ha.cons_inv
        obtain ⟨y', t2, e4, e5, e6⟩ := e3.cons_inv
        obtain ⟨b1, hb1, hd1⟩ := e2.str_inv
        obtain ⟨b2, hb2, hd2⟩ := e5.str_inv
        rw [e6.nil_inv] at e4
        rw [e4, hb1, hb2] at e1
        have : args' = #[.string b1, .string b2] := Array.toList_inj.1 e1
        subst this
        obtain ⟨B, hB, hcb, hbase⟩ := hg 0 hg0
        obtain ⟨B', hB', c, fr, q1, q2, q3, q4, q5⟩ := hm.blk 0 _ h0
        rw [hB] at hB'
        cases hB'
        rw [hcb] at q1
        have hcell : w.cell? ⟨0, 0, none⟩ = some (.int .i64 z) := by
          obtain ⟨v', g1, g2⟩ := q4.get (i := 0) rfl
          rw [g2.int_inv, hbase] at g1
          simp [World.cell?, q1]
          simpa using g1
        have hsz : b1.size < 4294967281 := by
          have : b1.size = b1.data.toList.length := by simp
          rw [this, hd1]; exact hlt'
        refine .inr ⟨hent _ _, (h b1 b2 z w hsz hcell).mono fun en w' hp => ?_⟩
        obtain ⟨hp1, hp2⟩ := hp
        subst hp1; subst hp2
        refine ⟨r, _, rfl, ?_, .refl hm⟩
        rw [idxStr_eq, hd1, hd2]
        have : (if Lib.index s p = -1 then -1 else Lib.index s p + ((0 : Nat) : Int)) = Lib.index s p := by split <;> simp_all
        rw [this]
        exact .int _ _
      · exact hgood.elim
    · exact hgood.elim
  · exact hgood.elim

theorem Step.below {r : Ren} {n : Nat} {g : Nat → Option ABlk} {w w' : World} (hm : MemRel r n g w) (h : Go.RowKit.Below w.heap.size w w') : Step r n g w r n g w' where
  le := r.le_refl
  mem := ⟨hm.fresh, fun b B hB => Nat.lt_of_lt_of_le (hm.inw b B hB) h.size, fun b k hk => let ⟨B, h1, h2⟩ := hm.blk b k hk; ⟨B, h1, h2.mono r.le_refl (h.block _ (hm.inw b B h1))⟩, hm.inj, hm.whole⟩
  next := Nat.le_refl _
  os := h.os
  tape := h.tape
  output := h.output
  size := h.size
  keep := fun cb hc _ => h.block cb hc
  own := fun b k B hb hB => .inr ⟨b, k, B, hb, hB, rfl, fun e => e⟩
  new := fun _ _ hB => .inl hB

def specRepeat : List AVal → AMem → Out AVal
  | [.str s, .int .i64 n], m => match Nat.ble (s.length * n.toNat) 1073741824 && Nat.ble n.toNat 1073741824 && decide (0 ≤ n) with
    | true => .ok (.str (Lib.repeatL s n.toNat)) m
    | false => .fail "spec"
  | _, _ => .fail "spec"

theorem specRepeat_ok {f : FuncId} (hent : ∀ args w, (callFunc f args).run P w = .ok (.enter f args) w)
    (h : ∀ (s : ByteArray) (c : Nat) (w : World), c ≤ 9223372036854775807 → s.size * c ≤ 140737488355328 →
      Calls P f #[.string s, .int .i64 c] w fun e w' => e = .returned (.string ⟨(Lib.repeatL s.data.toList c).toArray⟩) ∧ Go.RowKit.Below w.heap.size w w') : CallOk T P f specRepeat := by
  intro r w m args args' hg hm ha hgood
  unfold specRepeat at hgood ⊢
  split at hgood
  · rename_i s n
    split at hgood
    · rename_i hle
      rw [Bool.and_eq_true, Bool.and_eq_true, decide_eq_true_eq] at hle
      obtain ⟨⟨h1, h2⟩, h3⟩ := hle
      have h1 := Nat.le_of_ble_eq_true h1
      have h2 := Nat.le_of_ble_eq_true h2
      obtain ⟨x', t', e1, e2, e3⟩ := ha.cons_inv
      obtain ⟨y', t2, e4, e5, e6⟩ := e3.cons_inv
      obtain ⟨b, hb, hd⟩ := e2.str_inv
      rw [e6.nil_inv] at e4
      rw [e4, hb, e5.int_inv] at e1
      have : args' = #[.string b, .int .i64 n] := Array.toList_inj.1 e1
      subst this
      have hsz : b.size = s.length := by
        have : b.size = b.data.toList.length := by simp
        rw [this, hd]
      have := h b n.toNat w (by omega) (by rw [hsz]; omega)
      rw [Int.toNat_of_nonneg h3] at this
      refine .inr ⟨hent _ _, this.mono fun en w' hp => ?_⟩
      obtain ⟨hp1, hp2⟩ := hp
      subst hp1
      exact ⟨r, _, rfl, .str _ _ (by rw [hd]), Step.below hm hp2⟩
    · exact hgood.elim
  · exact hgood.elim
end
end
end Ev
end Go.Proofs.YtjmapihogpdocaaGreatDoor

/-! ## EvSpecs3 -/
namespace Go.Proofs.YtjmapihogpdocaaGreatDoor
namespace Ev
open Go
noncomputable section

def prefixB : List UInt8 → List UInt8 → Bool
  | [], _ => true
  | _ :: _, [] => false
  | a :: p, b :: s => match Nat.beq a.toNat b.toNat with
    | true => prefixB p s
    | false => false

theorem prefixB_eq : ∀ p s : List UInt8, prefixB p s = Lib.hasPrefix s p
  | [], s => by simp [prefixB, Lib.hasPrefix]
  | _ :: _, [] => by simp [prefixB, Lib.hasPrefix]
  | a :: p, b :: s => by
    have ih := prefixB_eq p s
    unfold Lib.hasPrefix at ih ⊢
    simp only [prefixB, byte_beq, List.isPrefixOf]
    cases h : (a == b) with
    | false => simp
    | true => simp [ih]

def specPrefix : List AVal → AMem → Out AVal
  | [.str s, .str p], m => .ok (.bool (prefixB p s)) m
  | _, _ => .fail "spec"

theorem specPrefix_ok {T : Tab} {P : Program} {f : FuncId} (hent : ∀ args w, (callFunc f args).run P w = .ok (.enter f args) w)
    (h : ∀ (s p : ByteArray) (w : World), Calls P f #[.string s, .string p] w fun e w' => e = .returned (.bool (Lib.hasPrefix s.data.toList p.data.toList)) ∧ w' = w) : CallOk T P f specPrefix := by
  intro r w m args args' hg hm ha hgood
  unfold specPrefix at hgood ⊢
  split at hgood
  · rename_i s p
    obtain ⟨x', t', e1, e2, e3⟩ := ha.cons_inv
    obtain ⟨y', t2, e4, e5, e6⟩ := e3.cons_inv
    obtain ⟨b1, hb1, hd1⟩ := e2.str_inv
    obtain ⟨b2, hb2, hd2⟩ := e5.str_inv
    rw [e6.nil_inv] at e4
    rw [e4, hb1, hb2] at e1
    have : args' = #[.string b1, .string b2] := Array.toList_inj.1 e1
    subst this
    refine .inr ⟨hent _ _, (h b1 b2 w).mono fun en w' hp => ?_⟩
    obtain ⟨hp1, hp2⟩ := hp
    subst hp1; subst hp2
    refine ⟨r, _, rfl, ?_, .refl hm⟩
    rw [hd1, hd2, ← prefixB_eq]
    exact .bool _
  · exact hgood.elim
end
end Ev
end Go.Proofs.YtjmapihogpdocaaGreatDoor

/-! ## EvSorted -/
namespace Go.Proofs.YtjmapihogpdocaaGreatDoor
namespace Ev
open Go Go.Maps Go.RowKit
noncomputable section

/-! ### Sorting, plainly -/
def insertS (x : List UInt8) : List (List UInt8) → List (List UInt8)
  | [] => [x]
  | y :: r => match bytesLt y x with
    | true => y :: insertS x r
    | false => x :: y :: r

def sortS : List (List UInt8) → List (List UInt8)
  | [] => []
  | x :: r => insertS x (sortS r)

theorem bytesLt_lt : ∀ x y : List UInt8, bytesLt x y = decide (x < y)
  | [], [] => rfl
  | [], _ :: _ => rfl
  | _ :: _, [] => rfl
  | a :: x, b :: y => by
    simp only [bytesLt]
    have hlt : Nat.blt a.toNat b.toNat = decide (a < b) := by
      rw [Bool.eq_iff_iff, decide_eq_true_eq]
      exact ⟨fun h => UInt8.lt_iff_toNat_lt.2 (Nat.le_of_ble_eq_true h), fun h => Nat.ble_eq_true_of_le (UInt8.lt_iff_toNat_lt.1 h)⟩
    rw [hlt, byte_beq]
    by_cases h1 : a < b
    · simp [h1, List.cons_lt_cons_iff]
    · by_cases h2 : a = b
      · subst h2
        have : ¬ a < a := h1
        simp [bytesLt_lt x y, this]
      · have h3 : (a == b) = false := by simpa using h2
        simp [h1, h2, h3, List.cons_lt_cons_iff]

theorem insertS_perm (x : List UInt8) : ∀ l, (insertS x l).Perm (x :: l)
  | [] => .refl _
  | y :: r => by
    simp only [insertS]
    split
    · exact ((insertS_perm x r).cons y).trans (.swap x y r)
    · exact .refl _

theorem sortS_perm : ∀ l, (sortS l).Perm l
  | [] => .refl _
  | x :: r => (insertS_perm x (sortS r)).trans ((sortS_perm r).cons x)

theorem insertS_sorted (x : List UInt8) : ∀ l, l.Pairwise (fun a b => leB a b = true) → (insertS x l).Pairwise (fun a b => leB a b = true)
  | [], _ => by simp [insertS]
  | y :: r, h => by
    have hy := List.pairwise_cons.1 h
    simp only [insertS]
    split
    · rename_i hlt
      rw [bytesLt_lt, decide_eq_true_eq] at hlt
      refine List.pairwise_cons.2 ⟨fun z hz => ?_, insertS_sorted x r hy.2⟩
      rcases List.mem_cons.1 ((insertS_perm x r).mem_iff.1 hz) with e | e
      · subst e; exact decide_eq_true (List.le_of_lt hlt)
      · exact hy.1 z e
    · rename_i hlt
      rw [bytesLt_lt, decide_eq_false_iff_not] at hlt
      have hxy : leB x y = true := decide_eq_true (List.not_lt.1 hlt)
      refine List.pairwise_cons.2 ⟨fun z hz => ?_, h⟩
      rcases List.mem_cons.1 hz with e | e
      · subst e; exact hxy
      · have := hy.1 z e
        simp only [leB, decide_eq_true_eq] at *
        exact List.le_trans hxy this

theorem sortS_sorted : ∀ l, (sortS l).Pairwise (fun a b => leB a b = true)
  | [] => .nil
  | x :: r => insertS_sorted x _ (sortS_sorted r)

theorem mergeSort_sortS {ss l : List (List UInt8)} (h : ss.Perm l) : ss.mergeSort leB = sortS l := by
  have tr : ∀ a b c : List UInt8, leB a b = true → leB b c = true → leB a c = true := fun a b c h1 h2 => by simp only [leB, decide_eq_true_eq] at *; exact List.le_trans h1 h2
  have to : ∀ a b : List UInt8, (leB a b || leB b a) = true := fun a b => by simp only [leB, Bool.or_eq_true, decide_eq_true_eq]; exact List.le_total a b
  refine List.Perm.eq_of_pairwise (le := fun a b => leB a b = true) (fun a b _ _ h1 h2 => ?_) (List.pairwise_mergeSort tr to ss) (sortS_sorted l) (((List.mergeSort_perm ss leB).trans h).trans (sortS_perm l).symm)
  simp only [leB, decide_eq_true_eq] at h1 h2
  exact List.le_antisymm h1 h2

/-! ### The specification -/
def keyStrs : List (AVal × AVal) → Option (List (List UInt8))
  | [] => some []
  | (k, _) :: r => match k, keyStrs r with
    | .str s, some l => match Nat.ble s.length 1073741824 with
      | true => some (s :: l)
      | false => none
    | _, _ => none

def specSorted (fI : FuncId) (et : TypeId) : List AVal → AMem → Out AVal
  | [.func (.func g) [] [.ptr c 0]], m => match Nat.beq g fI, m.get c with
    | true, some (.cells _ (.map b :: _) _ _ true) => match m.get b with
      | some (.map es _ _) => match Nat.ble es.length 1000000, keyStrs es with
        | true, some [] => .ok .nslice m
        | true, some ks => .ok (.slice m.next 0 ks.length 1 (.least ks.length)) (m.new (.cells et ((sortS ks).map .str) false 0 false))
        | _, _ => .fail "keys"
      | _ => .fail "map"
    | true, some (.cells _ (.nmap :: _) _ _ true) => .ok .nslice m
    | _, _ => .fail "seq"
  | _, _ => .fail "spec"

/-- A new block of cells, made by a call that leaves the old ones as they were. -/
theorem step_new_below {r : Ren} {n : Nat} {g : Nat → Option ABlk} {w w' : World} (hm : MemRel r n g w) (h : Below w.heap.size w w') {B : Blk} {k : ABlk} (hB : w.heap.size ≤ B.cb) (hlt : B.cb < w'.heap.size)
    (hk : BlkRel (r.ext n B) k B w') (hwh : ∀ e vs ro frz, k = .cells e vs ro frz true → B.base = 0 ∧ B.size = vs.length) : Step r n g w (r.ext n B) (n + 1) (upd g n k) w' := by
  obtain ⟨z1, z2⟩ := hm.none_at (Nat.le_refl n)
  have hle := Ren.ext_le (r := r) (id := n) (B := B) z1
  have inv : ∀ b B', (r.ext n B).at_ b = some B' → (b = n ∧ B' = B) ∨ (b ≠ n ∧ r.at_ b = some B') := by
    intro b B' e
    simp only [Ren.ext] at e
    by_cases c : b = n
    · rw [if_pos c] at e; cases e; exact .inl ⟨c, rfl⟩
    · rw [if_neg c] at e; exact .inr ⟨c, e⟩
  have ginv : ∀ b k', upd g n k b = some k' → (b = n ∧ k' = k) ∨ (b ≠ n ∧ g b = some k') := by
    intro b k' e
    simp only [upd] at e
    by_cases c : b = n
    · rw [if_pos c] at e; cases e; exact .inl ⟨c, rfl⟩
    · rw [if_neg c] at e; exact .inr ⟨c, e⟩
  refine ⟨hle, ⟨fun b B' e => ?_, fun b B' e => ?_, fun b k' e => ?_, fun b1 k1 b2 k2 B1 B2 g1 g2 e1 e2 hw hcb => ?_, fun b B' e vs ro frz g1 e1 => ?_⟩, Nat.le_succ n, h.os, h.tape, h.output, h.size, fun cb hc _ => h.block cb hc, fun b k' B' g1 e1 => ?_, fun b B' e => ?_⟩
  · rcases inv b B' e with ⟨rfl, _⟩ | ⟨_, e⟩
    · exact Nat.lt_succ_self _
    · exact Nat.lt_succ_of_lt (hm.fresh b B' e)
  · rcases inv b B' e with ⟨_, rfl⟩ | ⟨_, e⟩
    · exact hlt
    · exact Nat.lt_of_lt_of_le (hm.inw b B' e) h.size
  · rcases ginv b k' e with ⟨rfl, rfl⟩ | ⟨hne, e⟩
    · exact ⟨B, Ren.ext_same r _ B, hk⟩
    · obtain ⟨B', h1, h2⟩ := hm.blk b k' e
      exact ⟨B', hle _ _ h1, h2.mono hle (h.block _ (hm.inw b B' h1))⟩
  · rcases inv b1 B1 e1 with ⟨c1, d1⟩ | ⟨c1, d1⟩ <;> rcases inv b2 B2 e2 with ⟨c2, d2⟩ | ⟨c2, d2⟩
    · rw [c1, c2]
    · exfalso
      have := hm.inw b2 B2 d2
      rw [← hcb, d1] at this
      omega
    · exfalso
      have := hm.inw b1 B1 d1
      rw [hcb, d2] at this
      omega
    · rcases ginv b1 k1 g1 with ⟨c, _⟩ | ⟨_, g1⟩
      · exact absurd c c1
      rcases ginv b2 k2 g2 with ⟨c, _⟩ | ⟨_, g2⟩
      · exact absurd c c2
      exact hm.inj b1 k1 b2 k2 B1 B2 g1 g2 d1 d2 hw hcb
  · rcases ginv b _ g1 with ⟨c, d⟩ | ⟨c, d⟩
    · rcases inv b B' e1 with ⟨_, rfl⟩ | ⟨c2, _⟩
      · exact hwh _ _ _ _ d.symm
      · exact absurd c c2
    · rcases inv b B' e1 with ⟨c2, _⟩ | ⟨_, e1⟩
      · exact absurd c2 c
      · exact hm.whole b B' _ _ _ _ d e1
  · rcases ginv b _ g1 with ⟨c, d⟩ | ⟨c, d⟩
    · rcases inv b B' e1 with ⟨_, rfl⟩ | ⟨c2, _⟩
      · exact .inl hB
      · exact absurd c c2
    · rcases inv b B' e1 with ⟨c2, _⟩ | ⟨_, e1⟩
      · exact absurd c2 c
      · exact .inr ⟨b, k', B', d, e1, rfl, fun e => e⟩
  · rcases inv b B' e with ⟨c, _⟩ | ⟨_, e⟩
    · exact .inr (Nat.le_of_eq c.symm)
    · exact .inl e

theorem keyStrs_rel {r : Ren} : ∀ {es : List (AVal × AVal)} {es' : List MapEntry} {ks : List (List UInt8)}, EntRel r es es' → keyStrs es = some ks →
    es'.map (fun x => x.key) = ks.map encStr ∧ ∀ s ∈ ks, s.length ≤ 1073741824 := by
  intro es
  induction es with
  | nil =>
    intro es' ks h e
    cases e
    have : es' = [] := List.eq_nil_of_length_eq_zero h.1
    subst this
    exact ⟨rfl, fun s hs => by cases hs⟩
  | cons x es ih =>
    intro es' ks h e
    obtain ⟨k, u⟩ := x
    simp only [keyStrs] at e
    split at e
    · rename_i s l hl
      split at e
      · rename_i hle
        cases e
        cases es' with
        | nil => have := h.1; simp at this
        | cons y es' =>
          obtain ⟨h1, h2⟩ := ih (es' := es') ⟨by have := h.1; simpa using this, fun i e e' a b => h.2 (i + 1) e e' (by simpa using a) (by simpa using b)⟩ hl
          have hk := (h.2 0 _ _ rfl rfl).1
          obtain ⟨s', hs', hd⟩ := VRel.str_inv hk
          refine ⟨?_, fun z hz => ?_⟩
          · simp only [List.map_cons, h1, hs', List.cons.injEq, and_true]
            rw [← hd]
          · rcases List.mem_cons.1 hz with c | c
            · subst c; exact Nat.le_of_ble_eq_true hle
            · exact h2 z c
      · cases e
    · cases e

def nilR : Value → Option (DataW Unit × List MemPlace) := fun _ => some (.nil, [])

theorem specSorted_ok {T : Tab} {P : Program} {f fI : FuncId} {et : TypeId} (hent : ∀ args w, (callFunc f args).run P w = .ok (.enter f args) w) (hk : P.underlying et = some .string)
    (h : ∀ (b nn Bm : Nat) (D0 : DataW Unit) (w : World), Bm < w.heap.size → w.cell? ⟨Bm, 0, none⟩ = some (.map (some b)) → w.ownsMap P et nilR b nn D0 → Maps.size D0 ≤ maxLen → Maps.size D0 * 16 ≤ 140737488355328 →
      Calls P f #[.func (.func fI) #[] #[.pointer (some ⟨Bm, 0, none⟩)]] w fun e w' => ∃ (v : Value) (ss : List (List UInt8)), e = .returned v ∧ ss.Perm (strKeys D0) ∧
        w'.ownsRow w.heap.size et 1 v ss.length ((ss.mergeSort leB).map encStr) ∧ (v = .slice none 0 0 ↔ ss = []) ∧ Below w.heap.size w w')
    (h0 : ∀ (Bm : Nat) (w : World), Bm < w.heap.size → w.cell? ⟨Bm, 0, none⟩ = some (.map none) → Calls P f #[.func (.func fI) #[] #[.pointer (some ⟨Bm, 0, none⟩)]] w fun e w' => e = .returned (.slice none 0 0) ∧ Below w.heap.size w w') : CallOk T P f (specSorted fI et) := by
  intro r w m args args' hg hm ha hgood
  unfold specSorted at hgood ⊢
  split at hgood
  · rename_i g c
    split at hgood
    · rename_i e b tl ro frz hbeq hgc
      have hgI : g = fI := Nat.eq_of_beq_eq_true hbeq
      subst hgI
      split at hgood
      · rename_i es bs0 ck0 hgb
        -- the arguments
        obtain ⟨x', t', e1, e2, e3⟩ := ha.cons_inv
        rw [e3.nil_inv] at e1
        obtain ⟨f', c', e4, e5, e6⟩ := e2.func_inv
        have hf' : f' = #[] := Array.toList_inj.1 e5.nil_inv
        obtain ⟨p', t2, e7, e8, e9⟩ := e6.cons_inv
        rw [e9.nil_inv] at e7
        obtain ⟨B, hB, hp⟩ := e8.ptr_inv
        have hc' : c' = #[p'] := Array.toList_inj.1 e7
        obtain ⟨hbase, _⟩ := hm.whole c B _ _ _ _ hgc hB
        obtain ⟨B2, hB2, cc, fr, hh, _, _, hvs, _⟩ := hm.blk c _ hgc
        rw [hB] at hB2
        cases hB2
        rw [hbase] at hvs hp
        obtain ⟨mv, hmv, hrel⟩ : ∃ mv, cc.toList[0]? = some mv ∧ VRel r (.map b) mv := by
          obtain ⟨mv, h1, h2⟩ := hvs.get (i := 0) rfl
          refine ⟨mv, ?_, h2⟩
          simpa [List.getElem?_take] using h1
        obtain ⟨Bm, hBm, rfl⟩ := hrel.map_inv
        obtain ⟨Bm2, hBm2, es', hhm, hent', hst, hbn⟩ := hm.blk b _ hgb
        rw [hBm] at hBm2
        cases hBm2
        have hargs : args' = #[.func (.func g) #[] #[.pointer (some ⟨B.cb, 0, none⟩)]] := by
          refine Array.toList_inj.1 ?_
          rw [e1, e4, hf', hc', hp]
        subst hargs
        have hcell : w.cell? ⟨B.cb, 0, none⟩ = some (.map (some Bm.cb)) := by
          rw [cell_of hh, ← Array.getElem?_toList]
          exact hmv
        have main : ∀ ks, Nat.ble es.length 1000000 = true → keyStrs es = some ks → ∃ D0 : DataW Unit, w.ownsMap P et nilR Bm.cb es'.size D0 ∧ (strKeys D0).Perm ks ∧ Maps.size D0 ≤ 1000000 := by
          intro ks hle hks
          obtain ⟨h1, h2⟩ := keyStrs_rel hent' hks
          have hn : es'.size ≤ 1000000 := by
            have := hent'.1
            have := Nat.le_of_ble_eq_true hle
            simp at *
            omega
          have hrd : ∀ x ∈ es'.toList, ∃ s, x.key = encStr s ∧ s.length ≤ 1073741824 ∧ WideElems.rd P et nilR x = some (.string s, .nil) := by
            intro x hx
            obtain ⟨i, hi⟩ := List.mem_iff_getElem?.1 hx
            have hi2 : (es'.toList.map fun x => x.key)[i]? = some x.key := by simp [List.getElem?_map, hi]
            rw [h1, List.getElem?_map, Option.map_eq_some_iff] at hi2
            obtain ⟨s, hs, he⟩ := hi2
            have hsl := h2 s (List.mem_of_getElem? hs)
            refine ⟨s, he.symm, hsl, ?_⟩
            unfold WideElems.rd
            rw [← he]
            have : keyOf P et (encStr s) = some (.string s) := by
              unfold encStr
              rw [WideMaps.keyOf_string_mk hk (by show s.toArray.size ≤ maxLen; simp [maxLen]; omega)]
            rw [this]
            rfl
          refine ⟨.map ((es'.toList.map (WideElems.rg P et nilR)).foldr DataW.insert []), ⟨es', ck0, hhm, ⟨by simp [maxLen]; omega, hst, fun x hx => let ⟨s, _, _, h⟩ := hrd x hx; ⟨_, h⟩⟩, Nat.le_refl _, rfl⟩, ?_, ?_⟩
          · show (((es'.toList.map (WideElems.rg P et nilR)).foldr DataW.insert []).map fun p => strOf p.1).Perm ks
            refine ((WideShapes.sorted_perm _).map _).trans ?_
            rw [List.map_map]
            have : es'.toList.map ((fun p => strOf p.1) ∘ WideElems.rg P et nilR) = ks := by
              apply List.ext_getElem?
              intro i
              rw [List.getElem?_map]
              have hi2 : (es'.toList.map fun x => x.key)[i]? = (ks.map encStr)[i]? := by rw [h1]
              rw [List.getElem?_map, List.getElem?_map] at hi2
              cases hx : es'.toList[i]? with
              | none =>
                rw [hx] at hi2
                cases hy : ks[i]? with
                | none => rfl
                | some y => rw [hy] at hi2; cases hi2
              | some x =>
                rw [hx] at hi2
                obtain ⟨s, hs1, _, hs3⟩ := hrd x (List.mem_of_getElem? hx)
                cases hy : ks[i]? with
                | none => rw [hy] at hi2; cases hi2
                | some y =>
                  rw [hy] at hi2
                  simp only [Option.map_some, Option.some.injEq] at hi2
                  rw [hs1] at hi2
                  have := encStr_inj hi2
                  subst this
                  simp only [Option.map_some, Function.comp, WideElems.rg, hs3, Option.getD_some, strOf]
            rw [this]
          · show ((es'.toList.map (WideElems.rg P et nilR)).foldr DataW.insert []).length ≤ 1000000
            rw [(WideShapes.sorted_perm _).length_eq]
            simpa using hn
        split at hgood
        · rename_i hle hks
          obtain ⟨D0, hown, hperm, hmax⟩ := main [] hle hks
          refine .inr ⟨hent _ _, (h Bm.cb es'.size B.cb D0 w (hm.inw _ _ hB) hcell hown (by simp [maxLen]; omega) (by omega)).mono fun en w' hp2 => ?_⟩
          obtain ⟨v, ss, rfl, hS, _, hnil, hb⟩ := hp2
          have hss : ss = [] := (hS.trans hperm).eq_nil
          rw [hnil.2 hss]
          exact ⟨r, _, rfl, .nslice, Step.below hm hb⟩
        · rename_i ks hne hle hks
          obtain ⟨D0, hown, hperm, hmax⟩ := main ks hle hks
          refine .inr ⟨hent _ _, (h Bm.cb es'.size B.cb D0 w (hm.inw _ _ hB) hcell hown (by simp [maxLen]; omega) (by omega)).mono fun en w' hp2 => ?_⟩
          obtain ⟨v, ss, rfl, hS, hrow, hnil, hb⟩ := hp2
          have hpk := hS.trans hperm
          rcases hrow.2 with ⟨hv, hz⟩ | ⟨gb, cap, cur, rfl, hbase2, hgb, r1, r2, r3, r4⟩
          · exfalso
            have := (hnil.1 hv)
            subst this
            exact hne hpk.symm.eq_nil
          · rw [Nat.mul_one] at r3 r4
            have hlen := hpk.length_eq
            rw [mergeSort_sortS hpk] at r4
            have hslen : (sortS ks).length = ks.length := (sortS_perm ks).length_eq
            have hvs2 : VsRel (r.ext m.next ⟨gb, 0, cur.size⟩) ((sortS ks).map .str) (cur.toList.take ss.length) := by
              rw [r4]
              refine ⟨by simp, fun i v v' a b => ?_⟩
              rw [List.getElem?_map, Option.map_eq_some_iff] at a b
              obtain ⟨s, hs, rfl⟩ := a
              obtain ⟨s2, hs2, rfl⟩ := b
              rw [hs] at hs2
              cases hs2
              exact .str _ _ (by simp)
            have hcons : ks ≠ [] := by intro c; subst c; exact hne rfl
            have step := step_new_below hm hb (B := ⟨gb, 0, cur.size⟩) (k := .cells et ((sortS ks).map .str) false 0 false) hbase2 (by
              rcases Nat.lt_or_ge gb w'.heap.size with q | q
              · exact q
              · rw [Array.getElem?_eq_none q] at hgb; cases hgb)
              ⟨cur, (0, 0), hgb, rfl, by simp [hslen]; omega, by simpa [hslen, hlen] using hvs2, fun _ j _ _ c => by simp at c⟩ (fun e vs ro frz c => by cases c)
            refine ⟨r.ext m.next ⟨gb, 0, cur.size⟩, _, rfl, ?_, by rw [AMem.get_new]; exact step⟩
            rw [← hlen]
            exact .slice m.next 0 ss.length 1 (.least ss.length) ⟨gb, 0, cur.size⟩ ⟨gb, 0, none⟩ cap (Ren.ext_same r m.next _) r1 r1 (.inr ⟨rfl, by simp [r3]⟩)
        · exact hgood.elim
      · exact hgood.elim
    · rename_i e tl ro frz hbeq hgc
      have hgI : g = fI := Nat.eq_of_beq_eq_true hbeq
      subst hgI
      obtain ⟨x', t', e1, e2, e3⟩ := ha.cons_inv
      rw [e3.nil_inv] at e1
      obtain ⟨f', c', e4, e5, e6⟩ := e2.func_inv
      have hf' : f' = #[] := Array.toList_inj.1 e5.nil_inv
      obtain ⟨p', t2, e7, e8, e9⟩ := e6.cons_inv
      rw [e9.nil_inv] at e7
      obtain ⟨B, hB, hp⟩ := e8.ptr_inv
      have hc' : c' = #[p'] := Array.toList_inj.1 e7
      obtain ⟨hbase, _⟩ := hm.whole c B _ _ _ _ hgc hB
      obtain ⟨B2, hB2, cc, fr, hh, _, _, hvs, _⟩ := hm.blk c _ hgc
      rw [hB] at hB2
      cases hB2
      rw [hbase] at hvs hp
      obtain ⟨mv, hmv, hrel⟩ : ∃ mv, cc.toList[0]? = some mv ∧ VRel r .nmap mv := by
        obtain ⟨mv, h1, h2⟩ := hvs.get (i := 0) rfl
        refine ⟨mv, ?_, h2⟩
        simpa [List.getElem?_take] using h1
      have hmn := hrel.nmap_inv
      subst hmn
      have hargs : args' = #[.func (.func g) #[] #[.pointer (some ⟨B.cb, 0, none⟩)]] := by
        refine Array.toList_inj.1 ?_
        rw [e1, e4, hf', hc', hp]
      subst hargs
      have hcell : w.cell? ⟨B.cb, 0, none⟩ = some (.map none) := by
        rw [cell_of hh, ← Array.getElem?_toList]
        exact hmv
      exact .inr ⟨hent _ _, (h0 B.cb w (hm.inw _ _ hB) hcell).mono fun en w' ⟨q1, q2⟩ => by subst q1; exact ⟨r, _, rfl, .nslice, Step.below hm q2⟩⟩
    · exact hgood.elim
  · exact hgood.elim
end
end Ev
end Go.Proofs.YtjmapihogpdocaaGreatDoor
