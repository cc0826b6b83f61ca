/-
  strings.HasPrefix by a specification. (Conditions: the contract of the library's function at the program.)
-/
import Derived.Test.YtfddpaljmihinaaGreatDoorEvSpecs2
import Derived.Lib.Strings
namespace Go.Proofs.YtfddpaljmihinaaGreatDoor
namespace Ev
open Go
noncomputable section

def prefixB : List UInt8 → List UInt8 → Bool
  | [], _ => true
  | _ :: _, [] => false
  | a :: p, b :: s => match Nat.beq a.toNat b.toNat with
    | true => prefixB p s
    | false => false

theorem prefixB_eq : ∀ p s : List UInt8, prefixB p s = Lib.hasPrefix s p
  | [], s => by simp [prefixB, Lib.hasPrefix]
  | _ :: _, [] => by simp [prefixB, Lib.hasPrefix]
  | a :: p, b :: s => by
    have ih := prefixB_eq p s
    unfold Lib.hasPrefix at ih ⊢
    simp only [prefixB, byte_beq, List.isPrefixOf]
    cases h : (a == b) with
    | false => simp
    | true => simp [ih]

def specPrefix : List AVal → AMem → Out AVal
  | [.str s, .str p], m => .ok (.bool (prefixB p s)) m
  | _, _ => .fail "spec"

theorem specPrefix_ok {T : Tab} {P : Program} {f : FuncId} (hent : ∀ args w, (callFunc f args).run P w = .ok (.enter f args) w)
    (h : ∀ (s p : ByteArray) (w : World), Calls P f #[.string s, .string p] w fun e w' => e = .returned (.bool (Lib.hasPrefix s.data.toList p.data.toList)) ∧ w' = w) : CallOk T P f specPrefix := by
  intro r w m args args' hg hm ha hgood
  unfold specPrefix at hgood ⊢
  split at hgood
  · rename_i s p
    obtain ⟨x', t', e1, e2, e3⟩ := ha.cons_inv
    obtain ⟨y', t2, e4, e5, e6⟩ := e3.cons_inv
    obtain ⟨b1, hb1, hd1⟩ := e2.str_inv
    obtain ⟨b2, hb2, hd2⟩ := e5.str_inv
    rw [e6.nil_inv] at e4
    rw [e4, hb1, hb2] at e1
    have : args' = #[.string b1, .string b2] := Array.toList_inj.1 e1
    subst this
    refine .inr ⟨hent _ _, (h b1 b2 w).mono fun en w' hp => ?_⟩
    obtain ⟨hp1, hp2⟩ := hp
    subst hp1; subst hp2
    refine ⟨r, _, rfl, ?_, .refl hm⟩
    rw [hd1, hd2, ← prefixB_eq]
    exact .bool _
  · exact hgood.elim
end
end Ev
end Go.Proofs.YtfddpaljmihinaaGreatDoor
