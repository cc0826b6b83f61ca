/-
  Answers that lead to no memory. (Conditions: none beyond what each theorem asks.)
-/
import Derived.Test.YtfddpaljmihinaaGreatDoorEvBegin
/-! ## EvMemo -/
namespace Go.Proofs.YtfddpaljmihinaaGreatDoor
namespace Ev
open Go
noncomputable section
theorem wrap64_small {n : Int} (h0 : 0 ≤ n) (h1 : n < 4611686018427387904) : RowKit.wrap64 n = n := by
  unfold RowKit.wrap64
  omega

def flatF : Nat → AVal → Bool
  | 0, _ => false
  | n + 1, v => match v with
    | .bool _ => true
    | .int _ _ => true
    | .str _ => true
    | .nptr => true
    | .nslice => true
    | .nmap => true
    | .nfunc => true
    | .niface => true
    | .agg cs => cs.all (flatF n)
    | .tuple cs => cs.all (flatF n)
    | _ => false

theorem flatF_rel {r r' : Ren} : ∀ (n : Nat) {v : AVal} {v' : Value}, flatF n v = true → VRel r v v' → VRel r' v v' := by
  intro n
  induction n with
  | zero => intro v v' h; cases h
  | succ n ih =>
    intro v v' hf h
    cases h with
    | bool b => exact .bool b
    | int k n => exact .int k n
    | str s l h => exact .str s l h
    | nptr => exact .nptr
    | nslice => exact .nslice
    | nmap => exact .nmap
    | nfunc => exact .nfunc
    | niface => exact .niface
    | agg cs cs' hl hh => exact .agg cs cs' hl fun i u u' e1 e2 => ih (List.all_eq_true.1 hf u (List.mem_of_getElem? e1)) (hh i u u' e1 e2)
    | tuple cs cs' hl hh => exact .tuple cs cs' hl fun i u u' e1 e2 => ih (List.all_eq_true.1 hf u (List.mem_of_getElem? e1)) (hh i u u' e1 e2)
    | _ => cases hf

def runIs (v : AVal) : Out AVal → Bool
  | .ok u _ => match flatF 20 v with
    | true => sameF 100 u v
    | false => false
  | _ => false

theorem runIs_spec {v : AVal} {out : Out AVal} (h : runIs v out = true) : flatF 20 v = true ∧ ∃ m', out = .ok v m' := by
  unfold runIs at h
  split at h
  · rename_i u m'
    split at h
    · rename_i hf
      exact ⟨hf, m', by rw [sameF_eq 100 h]⟩
    · cases h
  · cases h

end
end Ev
end Go.Proofs.YtfddpaljmihinaaGreatDoor
