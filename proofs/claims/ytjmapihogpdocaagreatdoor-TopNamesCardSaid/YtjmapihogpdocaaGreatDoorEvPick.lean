/-
  Further specifications: one or another; strings compared; the sorted keys of a nil map. (Conditions: none beyond what each theorem asks.)
-/
import Derived.Lib.Bytealg
import Derived.Test.YtjmapihogpdocaaGreatDoorEvD
/-! ## EvPick -/
namespace Go.Proofs.YtjmapihogpdocaaGreatDoor
namespace Ev
open Go Go.RowKit
noncomputable section
variable {T : Tab} {P : Program}

/-- The one; where it has no answer, the other. -/
def specOr (F G : List AVal → AMem → Out AVal) (args : List AVal) (m : AMem) : Out AVal :=
  match F args m with
  | .fail _ => G args m
  | .ok v m' => .ok v m'
  | .pan v m' => .pan v m'

theorem specOr_ok {f : FuncId} {F G : List AVal → AMem → Out AVal} (hF : CallOk T P f F) (hG : CallOk T P f G) : CallOk T P f (specOr F G) := by
  intro r w m args args' hg hm ha hgood
  have h1 := hF r w m args args' hg hm ha
  have h2 := hG r w m args args' hg hm ha
  unfold specOr at hgood ⊢
  cases h : F args m with
  | fail s => rw [h] at hgood; exact h2 hgood
  | ok v m' => rw [h] at h1; exact h1 trivial
  | pan v m' => rw [h] at h1; exact h1 trivial

/-! ### Strings compared -/
def cmpE : List UInt8 → List UInt8 → Int
  | [], [] => 0
  | [], _ :: _ => -1
  | _ :: _, [] => 1
  | a :: as, b :: bs => match Nat.beq a.toNat b.toNat with
    | true => cmpE as bs
    | false => match Nat.ble a.toNat b.toNat with
      | true => -1
      | false => 1
theorem cmpE_eq : ∀ a b, cmpE a b = Lib.compareBytes a b
  | [], [] => rfl
  | [], _ :: _ => rfl
  | _ :: _, [] => rfl
  | a :: as, b :: bs => by
    have ih := cmpE_eq as bs
    unfold cmpE Lib.compareBytes
    split
    · rename_i h
      have e : a = b := UInt8.toNat_inj.1 (Nat.eq_of_beq_eq_true h)
      subst e
      rw [if_neg (UInt8.lt_irrefl a), if_neg (UInt8.lt_irrefl a), ih]
    · rename_i h
      have hne : a.toNat ≠ b.toNat := Nat.ne_of_beq_eq_false h
      split
      · rename_i h2
        have := Nat.le_of_ble_eq_true h2
        rw [if_pos (UInt8.lt_iff_toNat_lt.2 (by omega))]
      · rename_i h2
        have : ¬ a.toNat ≤ b.toNat := fun c => by rw [Nat.ble_eq_true_of_le c] at h2; cases h2
        rw [if_neg (fun c => by have := UInt8.lt_iff_toNat_lt.1 c; omega), if_pos (UInt8.lt_iff_toNat_lt.2 (by omega))]

def specCompare : List AVal → AMem → Out AVal
  | [.str a, .str b], m => .ok (.int .i64 (cmpE a b)) m
  | _, _ => .fail "spec"

theorem specCompare_ok {f : FuncId} {fn : Func} (hf : P.funcs[f]? = some fn) (hname : (fn.name == "runtime.NumGoroutine") = false)
    (hb : fn.body.isNone = true) (hn : Extern.findNext fn = none) (he : Extern.find fn = some Extern.BytealgCompare.compare) : CallOk T P f specCompare := by
  refine extern_ok hf hname hb hn he fun r w m args args' _ hm ha hgood => ?_
  unfold specCompare at hgood ⊢
  split at hgood
  · rename_i a b
    obtain ⟨x', t', e1, e2, e3⟩ := ha.cons_inv
    obtain ⟨y', t2, e4, e5, e6⟩ := e3.cons_inv
    obtain ⟨a', ha', hda⟩ := e2.str_inv
    obtain ⟨b', hb', hdb⟩ := e5.str_inv
    rw [e6.nil_inv] at e4
    rw [e4, ha', hb'] at e1
    have : args' = #[.string a', .string b'] := Array.toList_inj.1 e1
    subst this
    refine ⟨_, w, Lib.run_compareString a' b' w, r, _, rfl, ?_, .refl hm⟩
    rw [cmpE_eq, hda, hdb]
    exact .int _ _
  · exact hgood.elim

/-! ### The sorted keys of a nil map -/
def specSortedNil (fI : FuncId) : List AVal → AMem → Out AVal
  | [.func (.func g) [] [.ptr c 0]], m => match Nat.beq g fI, m.get c with
    | true, some (.cells _ [.nmap] _ _ true) => .ok .nslice m
    | _, _ => .fail "sorted"
  | _, _ => .fail "sorted"

theorem specSortedNil_ok {f fI : FuncId} (hent : ∀ args w, (callFunc f args).run P w = .ok (.enter f args) w)
    (h0 : ∀ (Bm : Nat) (w : World), Bm < w.heap.size → w.cell? ⟨Bm, 0, none⟩ = some (.map none) → Calls P f #[.func (.func fI) #[] #[.pointer (some ⟨Bm, 0, none⟩)]] w fun e w' => e = .returned (.slice none 0 0) ∧ Below w.heap.size w w') : CallOk T P f (specSortedNil fI) := by
  intro r w m args args' hg hm ha hgood
  unfold specSortedNil at hgood ⊢
  split at hgood
  · rename_i g c
    split at hgood
    · rename_i e ro frz hbeq hgc
      have hgI : g = fI := Nat.eq_of_beq_eq_true hbeq
      subst hgI
      obtain ⟨x', t', e1, e2, e3⟩ := ha.cons_inv
      rw [e3.nil_inv] at e1
      obtain ⟨f', c', e4, e5, e6⟩ := e2.func_inv
      have hf' : f' = #[] := Array.toList_inj.1 e5.nil_inv
      obtain ⟨p', t2, e7, e8, e9⟩ := e6.cons_inv
      rw [e9.nil_inv] at e7
      obtain ⟨B, hB, hp⟩ := e8.ptr_inv
      have hc' : c' = #[p'] := Array.toList_inj.1 e7
      obtain ⟨hbase, _⟩ := hm.whole c B _ _ _ _ hgc hB
      obtain ⟨B2, hB2, cc, fr, hh, _, _, hvs, _⟩ := hm.blk c _ hgc
      rw [hB] at hB2
      cases hB2
      rw [hbase] at hvs hp
      obtain ⟨mv, hmv, hrel⟩ : ∃ mv, cc.toList[0]? = some mv ∧ VRel r .nmap mv := by
        obtain ⟨mv, h1, h2⟩ := hvs.get (i := 0) rfl
        refine ⟨mv, ?_, h2⟩
        simpa [List.getElem?_take] using h1
      have hmn := hrel.nmap_inv
      subst hmn
      have hargs : args' = #[.func (.func g) #[] #[.pointer (some ⟨B.cb, 0, none⟩)]] := by
        refine Array.toList_inj.1 ?_
        rw [e1, e4, hf', hc', hp]
      subst hargs
      have hcell : w.cell? ⟨B.cb, 0, none⟩ = some (.map none) := by
        rw [cell_of hh, ← Array.getElem?_toList]
        exact hmv
      exact .inr ⟨hent _ _, (h0 B.cb w (hm.inw _ _ hB) hcell).mono fun en w' ⟨q1, q2⟩ => by subst q1; exact ⟨r, _, rfl, .nslice, Step.below hm q2⟩⟩
    · exact hgood.elim
  · exact hgood.elim
end
end Ev
end Go.Proofs.YtjmapihogpdocaaGreatDoor
