/-
  The evaluator's pure operations answer what the machine's do: slices, places, parts. (Conditions: the tables tell of the program what is so.)
-/
import Derived.Test.YtfddpaljmihinaaGreatDoorEvPure2
namespace Go.Proofs.YtfddpaljmihinaaGreatDoor
namespace Ev
open Go

section
variable {T : Tab} {P : Program} (hT : TabOk T P) {r : Ren} (w : World)

def EqForm (t : TypeId) (a b : Value) : Prop :=
  Go.binOp .eql t a b = (do pure (.bool (← Op.equal t a b))) ∧ Go.binOp .neq t a b = (do pure (.bool (!(← Op.equal t a b))))

theorem eqCell_form {t : TypeId} {d : TypeDesc} {x y : AVal} {x' y' : Value} {b : Bool} (hx : VRel r x x') (hy : VRel r y y')
    (hi : ∀ k n k' n', x = .int k n → y = .int k' n' → False) (hs : ∀ s s', x = .str s → y = .str s' → False)
    (h : eqCell d x y = some b) : EqForm t x' y' := by
  unfold eqCell at h
  split at h
  · rw [hx.bool_inv, hy.bool_inv]; exact ⟨rfl, rfl⟩
  · exact (hi _ _ _ _ rfl rfl).elim
  · exact (hs _ _ rfl rfl).elim
  · rw [hx.nptr_inv, hy.nptr_inv]; exact ⟨rfl, rfl⟩
  · rw [hx.nptr_inv]; obtain ⟨B, _, rfl⟩ := hy.ptr_inv; exact ⟨rfl, rfl⟩
  · rw [hy.nptr_inv]; obtain ⟨B, _, rfl⟩ := hx.ptr_inv; exact ⟨rfl, rfl⟩
  · rw [hx.niface_inv]; obtain ⟨u, rfl, _⟩ := hy.iface_inv; exact ⟨rfl, rfl⟩
  · rw [hy.niface_inv]; obtain ⟨u, rfl, _⟩ := hx.iface_inv; exact ⟨rfl, rfl⟩
  · rw [hx.nslice_inv, hy.nslice_inv]; exact ⟨rfl, rfl⟩
  · rw [hx.nslice_inv]; obtain ⟨B, a, c, _, rfl, _⟩ := hy.slice_inv; exact ⟨rfl, rfl⟩
  · rw [hy.nslice_inv]; obtain ⟨B, a, c, _, rfl, _⟩ := hx.slice_inv; exact ⟨rfl, rfl⟩
  · rw [hx.nmap_inv, hy.nmap_inv]; exact ⟨rfl, rfl⟩
  · rw [hx.nmap_inv]; obtain ⟨B, _, rfl⟩ := hy.map_inv; exact ⟨rfl, rfl⟩
  · rw [hy.nmap_inv]; obtain ⟨B, _, rfl⟩ := hx.map_inv; exact ⟨rfl, rfl⟩
  · rw [hx.nfunc_inv, hy.nfunc_inv]; exact ⟨rfl, rfl⟩
  · rw [hx.nfunc_inv]; obtain ⟨a, c, rfl, _⟩ := hy.func_inv; exact ⟨rfl, rfl⟩
  · rw [hy.nfunc_inv]; obtain ⟨a, c, rfl, _⟩ := hx.func_inv; exact ⟨rfl, rfl⟩
  · cases h

theorem eqOp_form {t : TypeId} {x y : Operand} {a b : AVal} {a' b' : Value} {v : Bool} (ha : VRel r a a') (hb : VRel r b b')
    (hi : ∀ k n k' n', a = .int k n → b = .int k' n' → False) (hs : ∀ s s', a = .str s → b = .str s' → False)
    (h : eqOp T t x y a b = some v) : EqForm t a' b' := by
  unfold eqOp at h
  split at h
  · cases h
  · split at h
    · rw [ha.niface_inv, hb.niface_inv]; exact ⟨rfl, rfl⟩
    · obtain ⟨u1, rfl, h1⟩ := ha.iface_inv
      obtain ⟨u2, rfl, h2⟩ := hb.iface_inv
      exact ⟨rfl, rfl⟩
    · obtain ⟨B1, _, rfl⟩ := ha.ptr_inv
      obtain ⟨B2, _, rfl⟩ := hb.ptr_inv
      exact ⟨rfl, rfl⟩
    · obtain ⟨as', rfl, _⟩ := ha.agg_inv
      obtain ⟨bs', rfl, _⟩ := hb.agg_inv
      exact ⟨rfl, rfl⟩
    · exact eqCell_form ha hb hi hs h

include hT in
theorem binop_ok {op : BinOp} {t : TypeId} {x y : Operand} {a b : AVal} {a' b' : Value} {v : AVal} (ha : VRel r a a') (hb : VRel r b b')
    (h : binop T op t x y a b = some v) :
    ∃ v', (do eqGuard op t x y a' b'; Go.binOp op t a' b' : Sem Value).run P w = .ok v' w ∧ VRel r v v' := by
  unfold binop at h
  split at h
  · split at h
    · rw [ha.int_inv, hb.int_inv]
      rw [eqGuard_at_int]
      simpa [Go.binOp] using shiftOp_ok (P := P) (r := r) w h
    · cases h
  · split at h
    · rw [ha.int_inv, hb.int_inv]
      rw [eqGuard_at_int]
      simpa [Go.binOp] using shiftOp_ok (P := P) (r := r) w h
    · cases h
  · rename_i op hs hr
    split at h
    · rename_i k u k' v
      by_cases c : k = k'
      · rw [if_pos c] at h
        subst c
        rw [ha.int_inv, hb.int_inv, eqGuard_at_int]
        obtain ⟨v', e, hv⟩ := intOp_ok (P := P) (t := t) (r := r) w hs hr h
        exact ⟨v', by simpa using e, hv⟩
      · rw [if_neg c] at h; cases h
    · obtain ⟨s1, rfl, e1⟩ := ha.str_inv
      obtain ⟨s2, rfl, e2⟩ := hb.str_inv
      rw [eqGuard_at_string]
      subst e1; subst e2
      obtain ⟨v', e, hv⟩ := strOp_ok (P := P) (t := t) (r := r) w h
      exact ⟨v', by simpa using e, hv⟩
    · rename_i n1 n2
      split at h
      · cases hz : eqOp T t x y a b with
        | none => rw [hz] at h; cases h
        | some z =>
          rw [hz] at h
          cases h
          obtain ⟨e1, e2⟩ := eqOp_ok hT (w := w) .eql ha hb hz
          have f := (eqOp_form ha hb (fun k n k' n' e e' => n1 k n k' n' e e') (fun s s' e e' => n2 s s' e e') hz).1
          exact ⟨_, by simp [e1, f, e2], .bool _⟩
      · cases hz : eqOp T t x y a b with
        | none => rw [hz] at h; cases h
        | some z =>
          rw [hz] at h
          cases h
          obtain ⟨e1, e2⟩ := eqOp_ok hT (w := w) .neq ha hb hz
          have f := (eqOp_form ha hb (fun k n k' n' e e' => n1 k n k' n' e e') (fun s s' e e' => n2 s s' e e') hz).2
          exact ⟨_, by simp [e1, f, e2], .bool _⟩
      · cases h

theorem unop_ok {op : UnOp} {x : AVal} {x' : Value} {v : AVal} (hx : VRel r x x') (h : unop op x = some v) :
    ∃ v', (Op.unary op x').run P w = .ok v' w ∧ VRel r v v' := by
  unfold unop at h
  split at h
  · cases h; rw [hx.int_inv]; exact ⟨_, rfl, .int _ _⟩
  · rw [hx.int_inv]
    obtain ⟨v', e, hv⟩ := intBits_ok (P := P) (r := r) w h
    exact ⟨v', by simpa [Op.unary] using e, hv⟩
  · cases h; rw [hx.bool_inv]; exact ⟨_, rfl, .bool _⟩
  · cases h
end
end Ev
end Go.Proofs.YtfddpaljmihinaaGreatDoor
