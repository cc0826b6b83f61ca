/-
  The functions that the evaluator takes by a specification: those that the machine itself does. (Conditions: the function's name and that it bears no body.)
-/
import Derived.Test.YtfddpaljmihinaaGreatDoorEvDraw5
import Derived.Laws.Externs
import Derived.Lib.Bytealg
import Derived.Lib.MakeNoZero
namespace Go.Proofs.YtfddpaljmihinaaGreatDoor
namespace Ev
open Go
noncomputable section

def idxByte (c : UInt8) : List UInt8 → Int → Int
  | [], _ => -1
  | x :: r, i => match x == c with
    | true => i
    | false => idxByte c r (i + 1)

theorem idxByte_find (c : UInt8) (l : List UInt8) : ∀ k : Nat, idxByte c l k = match (List.range l.length).find? fun i => l[i]! == c with | some i => ((k + i : Nat) : Int) | none => -1 := by
  induction l with
  | nil => intro k; rfl
  | cons x r ih =>
    intro k
    simp only [idxByte, List.length_cons, List.range_succ_eq_map, List.find?_cons]
    have h0 : ((x :: r)[0]! == c) = (x == c) := rfl
    rw [h0]
    cases hx : x == c with
    | true => simp
    | false =>
      show idxByte c r ((k : Int) + 1) = _
      rw [show ((k : Int) + 1) = ((k + 1 : Nat) : Int) by simp, ih (k + 1), List.find?_map]
      have e : ((fun i => (x :: r)[i]! == c) ∘ Nat.succ) = fun i => r[i]! == c := by
        funext i
        simp [Function.comp]
      rw [e]
      cases (List.range r.length).find? fun i => r[i]! == c with
      | none => rfl
      | some i =>
        show ((k + 1 + i : Nat) : Int) = ((k + (i + 1) : Nat) : Int)
        congr 1; omega

theorem firstIdx_eq (s : ByteArray) (c : UInt8) : firstIdx s c = idxByte c s.data.toList 0 := by
  have : idxByte c s.data.toList 0 = _ := idxByte_find c s.data.toList 0
  simp only [Nat.zero_add] at this
  rw [this]
  unfold firstIdx
  have e : (fun (i : Nat) => s[i]! == c) = fun (i : Nat) => s.data.toList[i]! == c := by
    funext i
    congr 1
    by_cases h : i < s.size
    · simp [getElem!_pos, h]
      rfl
    · simp [getElem!_neg, h]
  rw [e]
  have hs : s.size = s.data.toList.length := by simp
  rw [hs]
  cases (List.range s.data.toList.length).find? fun i => s.data.toList[i]! == c <;> simp

section
variable {T : Tab} {P : Program}

theorem extern_ok {f : FuncId} {fn : Func} {e : Array Value → Sem Value} {F : List AVal → AMem → Out AVal} (hf : P.funcs[f]? = some fn) (hname : (fn.name == "runtime.NumGoroutine") = false)
    (hb : fn.body.isNone = true) (hn : Extern.findNext fn = none) (he : Extern.find fn = some e)
    (h : ∀ (r : Ren) (w : World) (m : AMem) (args : List AVal) (args' : Array Value), GlobOk T r → MemRel r m.next m.get w → VsRel r args args'.toList → (F args m).good →
      ∃ v w', (e args').run P w = .ok v w' ∧ Post r m w (F args m) (.returned v) w') : CallOk T P f F := by
  intro r w m args args' hg hm ha hgood
  obtain ⟨v, w', e1, e2⟩ := h r w m args args' hg hm ha hgood
  exact .inl ⟨v, w', by rw [run_callFunc_extern hf hname hb hn he, e1]; rfl, e2⟩

def specSame : List AVal → AMem → Out AVal
  | [x], m => .ok x m
  | _, _ => .fail "spec"

def specIndexByte : List AVal → AMem → Out AVal
  | [.str s, .int .u8 c], m => .ok (.int .i64 (idxByte (UInt8.ofNat c.toNat) s 0)) m
  | _, _ => .fail "spec"

theorem specSame_ok {f : FuncId} {fn : Func} (hf : P.funcs[f]? = some fn) (hname : (fn.name == "runtime.NumGoroutine") = false)
    (hb : fn.body.isNone = true) (hn : Extern.findNext fn = none) (he : Extern.find fn = some Extern.AbiNoEscape.same) : CallOk T P f specSame := by
  refine extern_ok hf hname hb hn he fun r w m args args' _ hm ha hgood => ?_
  unfold specSame at hgood ⊢
  split at hgood
  · rename_i x _
    obtain ⟨x', t', e1, e2, e3⟩ := ha.cons_inv
    rw [e3.nil_inv] at e1
    have : args' = #[x'] := Array.toList_inj.1 e1
    subst this
    exact ⟨x', w, rfl, r, x', rfl, e2, .refl hm⟩
  · exact hgood.elim

theorem specIndexByte_ok {f : FuncId} {fn : Func} (hf : P.funcs[f]? = some fn) (hname : (fn.name == "runtime.NumGoroutine") = false)
    (hb : fn.body.isNone = true) (hn : Extern.findNext fn = none) (he : Extern.find fn = some Extern.BytealgIndexByte.indexByte) : CallOk T P f specIndexByte := by
  refine extern_ok hf hname hb hn he fun r w m args args' _ hm ha hgood => ?_
  unfold specIndexByte at hgood ⊢
  split at hgood
  · rename_i s c
    obtain ⟨x', t', e1, e2, e3⟩ := ha.cons_inv
    obtain ⟨y', t2, e4, e5, e6⟩ := e3.cons_inv
    obtain ⟨b, hb', hd⟩ := e2.str_inv
    rw [e6.nil_inv] at e4
    rw [e4, hb', e5.int_inv] at e1
    have : args' = #[.string b, .int .u8 c] := Array.toList_inj.1 e1
    subst this
    refine ⟨_, w, run_indexByte_string b c w, r, _, rfl, ?_, .refl hm⟩
    rw [firstIdx_eq, hd]
    exact .int _ _
  · exact hgood.elim

def countByteE (c : UInt8) : List UInt8 → Nat
  | [] => 0
  | x :: r => match x == c with
    | true => countByteE c r + 1
    | false => countByteE c r

theorem countByteE_eq (c : UInt8) : ∀ l, countByteE c l = Lib.countByte l c
  | [] => rfl
  | x :: r => by
    unfold Lib.countByte
    rw [List.count_cons]
    have := countByteE_eq c r
    unfold Lib.countByte at this
    simp only [countByteE]
    split
    · rename_i h; rw [h, this]; rfl
    · rename_i h; rw [h, this]; rfl

def specCount : List AVal → AMem → Out AVal
  | [.str s, .int .u8 c], m => .ok (.int .i64 (Int.ofNat (countByteE (UInt8.ofNat c.toNat) s))) m
  | _, _ => .fail "spec"

theorem specCount_ok {f : FuncId} {fn : Func} (hf : P.funcs[f]? = some fn) (hname : (fn.name == "runtime.NumGoroutine") = false)
    (hb : fn.body.isNone = true) (hn : Extern.findNext fn = none) (he : Extern.find fn = some Extern.BytealgCount.count) : CallOk T P f specCount := by
  refine extern_ok hf hname hb hn he fun r w m args args' _ hm ha hgood => ?_
  unfold specCount at hgood ⊢
  split at hgood
  · rename_i s c
    obtain ⟨x', t', e1, e2, e3⟩ := ha.cons_inv
    obtain ⟨y', t2, e4, e5, e6⟩ := e3.cons_inv
    obtain ⟨b, hb', hd⟩ := e2.str_inv
    rw [e6.nil_inv] at e4
    rw [e4, hb', e5.int_inv] at e1
    have : args' = #[.string b, .int .u8 c] := Array.toList_inj.1 e1
    subst this
    refine ⟨_, w, Lib.run_countString b c w, r, _, rfl, ?_, .refl hm⟩
    rw [← countByteE_eq, hd]
    exact .int _ _
  · exact hgood.elim

/-- Bytes of whatever content. -/
def specMake (e : TypeId) : List AVal → AMem → Out AVal
  | [.int .i64 n], m => match Nat.ble n.toNat 1073741824 && decide (0 ≤ n) with
    | true => .ok (.slice m.next 0 n.toNat 1 (.least n.toNat)) (m.new (.cells e (repeatCells [.any] n.toNat) false 0 false))
    | false => .fail "spec"
  | _, _ => .fail "spec"

theorem specMake_ok {f : FuncId} {fn : Func} {ps : Array TypeId} {t e : TypeId} (hu : P.underlying t = some (.slice e)) (_hc : P.cellsOf e = 1) (hf : P.funcs[f]? = some fn) (hname : (fn.name == "runtime.NumGoroutine") = false)
    (hb : fn.body.isNone = true) (hn : Extern.findNext fn = none) (he : Extern.find fn = some (Extern.BytealgMakeNoZero.makeNoZero ps #[t])) : CallOk T P f (specMake e) := by
  refine extern_ok hf hname hb hn he fun r w m args args' _ hm ha hgood => ?_
  unfold specMake at hgood ⊢
  split at hgood
  · rename_i n
    split at hgood
    · rename_i hle
      rw [Bool.and_eq_true, decide_eq_true_eq] at hle
      have hn1 := Nat.le_of_ble_eq_true hle.1
      obtain ⟨x', t', e1, e2, e3⟩ := ha.cons_inv
      rw [e3.nil_inv, e2.int_inv] at e1
      have : args' = #[.int .i64 n] := Array.toList_inj.1 e1
      subst this
      obtain ⟨cs, hrun, hsz, _⟩ := Lib.run_makeNoZero (P := P) w ps t e hu n.toNat (by omega)
      rw [Int.toNat_of_nonneg hle.2] at hrun
      obtain ⟨z1, z2⟩ := hm.none_at (Nat.le_refl m.next)
      have hmade : Made r m.next w (.cells e (repeatCells [.any] n.toNat) false 0 false) (.slice m.next 0 n.toNat 1 (.least n.toNat)) (.slice (some ⟨w.heap.size, 0, none⟩) n.toNat cs.size) (w.drew.drew.alloc (.cells cs e)) ⟨w.heap.size, 0, cs.size⟩ := by
        refine made_row false (fr := (0, 0)) z1 rfl rfl rfl rfl ?_ (by simp [repeatCells_length]; omega) (fun j _ h => by simp at h) ?_ (fun h => Bool.noConfusion h)
        · refine ⟨by simp [repeatCells_length]; omega, fun i u u' a b => ?_⟩
          have := repeatCells_get [.any] _ i u a
          simp [Nat.mod_one] at this
          subst this
          exact .any _
        · exact .slice m.next 0 n.toNat 1 (.least n.toNat) ⟨w.heap.size, 0, cs.size⟩ ⟨w.heap.size, 0, none⟩ cs.size (Ren.ext_same r m.next _) hsz hsz (.inr ⟨rfl, by simp⟩)
      exact ⟨_, _, hrun, r.ext m.next ⟨w.heap.size, 0, cs.size⟩, _, rfl, hmade.val, by rw [AMem.get_new]; exact hmade.new hm z2⟩
    · exact hgood.elim
  · exact hgood.elim
end
end
end Ev
end Go.Proofs.YtfddpaljmihinaaGreatDoor
