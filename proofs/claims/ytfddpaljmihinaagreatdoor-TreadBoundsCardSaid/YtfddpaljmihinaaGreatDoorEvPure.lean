/-
  The evaluator's pure operations answer what the machine's do. (Conditions: the tables tell of the program what is so; the temporaries are related.)
-/
import Derived.Test.YtfddpaljmihinaaGreatDoorEvRel
import Derived.Laws.Strings
import Derived.Lib.IndexBytes
import Derived.WideShapes
namespace Go.Proofs.YtfddpaljmihinaaGreatDoor
namespace Ev
open Go

section
variable {T : Tab} {P : Program} (hT : TabOk T P) {r : Ren} (w : World)

theorem run_asInt (k : IntKind) (n : Int) : (asInt (.int k n)).run P w = .ok n w := by simp [asInt, asIntOf]
theorem run_asIntOf (k : IntKind) (n : Int) : (asIntOf (.int k n)).run P w = .ok (k, n) w := by simp [asIntOf]

theorem intBits_ok {op : BinOp} {k : IntKind} {x y : Int} {v : AVal} (h : intBits op k x y = some v) :
    ∃ v', (Op.intBits op k x y).run P w = .ok v' w ∧ VRel r v v' := by
  unfold intBits at h
  cases op <;> cases h <;> exact ⟨_, rfl, .int _ _⟩

theorem shiftOp_ok {op : BinOp} {k yk : IntKind} {x y : Int} {v : AVal} (h : shiftOp op k x y = some v) :
    ∃ v', (Op.shift op k x yk y).run P w = .ok v' w ∧ VRel r v v' := by
  unfold shiftOp at h
  by_cases c : y < 0
  · rw [if_pos c] at h; cases h
  · rw [if_neg c] at h
    cases op <;> simp at h <;> subst h <;> exact ⟨_, by simp [Op.shift, c], .int _ _⟩

theorem eqI_eq (x y : Int) : eqI x y = (x == y) := by
  rw [Bool.eq_iff_iff, beq_iff_eq]
  cases x with
  | ofNat a => cases y with
    | ofNat b =>
      show Nat.beq a b = true ↔ _
      rw [Nat.beq_eq]
      exact ⟨fun h => by rw [h], fun h => by cases h; rfl⟩
    | negSucc b => exact ⟨fun h => (by cases h), fun h => (by cases h)⟩
  | negSucc a => cases y with
    | ofNat b => exact ⟨fun h => (by cases h), fun h => (by cases h)⟩
    | negSucc b =>
      show Nat.beq a b = true ↔ _
      rw [Nat.beq_eq]
      exact ⟨fun h => by rw [h], fun h => by cases h; rfl⟩

theorem ltI_eq (x y : Int) : ltI x y = decide (x < y) := by
  rw [Bool.eq_iff_iff, decide_eq_true_eq]
  cases x with
  | ofNat a => cases y with
    | ofNat b =>
      show Nat.ble (a + 1) b = true ↔ _
      rw [Nat.ble_eq]
      show a + 1 ≤ b ↔ (a : Int) < (b : Int)
      omega
    | negSucc b => exact ⟨fun h => (by cases h), fun h => (by have h0 : (0 : Int) ≤ Int.ofNat a := Int.natCast_nonneg a; omega)⟩
  | negSucc a => cases y with
    | ofNat b => exact ⟨fun _ => (by have h0 : (0 : Int) ≤ Int.ofNat b := Int.natCast_nonneg b; omega), fun _ => rfl⟩
    | negSucc b =>
      show Nat.ble (b + 1) a = true ↔ _
      rw [Nat.ble_eq]
      omega

theorem intOp_ok {op : BinOp} {t : TypeId} {k : IntKind} {x y : Int} {v : AVal} (hs : op ≠ .shl) (hr : op ≠ .shr) (h : intOp op k x y = some v) :
    ∃ v', (Go.binOp op t (.int k x) (.int k y)).run P w = .ok v' w ∧ VRel r v v' := by
  cases op with
  | add => simp [intOp] at h; subst h; exact ⟨_, by simp [Go.binOp, Op.intArith], .int _ _⟩
  | sub => simp [intOp] at h; subst h; exact ⟨_, by simp [Go.binOp, Op.intArith], .int _ _⟩
  | mul => simp [intOp] at h; subst h; exact ⟨_, by simp [Go.binOp, Op.intArith], .int _ _⟩
  | quo =>
    simp only [intOp] at h
    by_cases c : y = 0
    · rw [if_pos c] at h; cases h
    · rw [if_neg c] at h; cases h; exact ⟨_, by simp [Go.binOp, Op.intDiv, c], .int _ _⟩
  | rem =>
    simp only [intOp] at h
    by_cases c : y = 0
    · rw [if_pos c] at h; cases h
    · rw [if_neg c] at h; cases h; exact ⟨_, by simp [Go.binOp, Op.intDiv, c], .int _ _⟩
  | eql => simp [intOp, eqI_eq] at h; subst h; exact ⟨_, by simp [Go.binOp, Op.intCmp], .bool _⟩
  | neq => simp only [intOp, eqI_eq, Option.some.injEq] at h; subst h; exact ⟨_, by simp [Go.binOp, Op.intCmp, bne], .bool _⟩
  | lss => simp [intOp, ltI_eq] at h; subst h; exact ⟨_, by simp [Go.binOp, Op.intCmp], .bool _⟩
  | leq => simp only [intOp, ltI_eq, Option.some.injEq] at h; subst h; rw [show (!decide (y < x)) = decide (x ≤ y) by rw [← decide_not, decide_eq_decide]; omega]; exact ⟨_, by simp [Go.binOp, Op.intCmp], .bool _⟩
  | gtr => simp [intOp, ltI_eq] at h; subst h; exact ⟨_, by simp [Go.binOp, Op.intCmp], .bool _⟩
  | geq => simp only [intOp, ltI_eq, Option.some.injEq] at h; subst h; rw [show (!decide (x < y)) = decide (x ≥ y) by rw [← decide_not, decide_eq_decide]; omega]; exact ⟨_, by simp [Go.binOp, Op.intCmp], .bool _⟩
  | shl => exact absurd rfl hs
  | shr => exact absurd rfl hr
  | and => simp only [intOp] at h; obtain ⟨v', a, b⟩ := intBits_ok (P := P) (r := r) w h; exact ⟨v', by simpa [Go.binOp] using a, b⟩
  | or => simp only [intOp] at h; obtain ⟨v', a, b⟩ := intBits_ok (P := P) (r := r) w h; exact ⟨v', by simpa [Go.binOp] using a, b⟩
  | xor => simp only [intOp] at h; obtain ⟨v', a, b⟩ := intBits_ok (P := P) (r := r) w h; exact ⟨v', by simpa [Go.binOp] using a, b⟩
  | andNot => simp only [intOp] at h; obtain ⟨v', a, b⟩ := intBits_ok (P := P) (r := r) w h; exact ⟨v', by simpa [Go.binOp] using a, b⟩

theorem byte_beq (a b : UInt8) : Nat.beq a.toNat b.toNat = (a == b) := by
  rw [Bool.eq_iff_iff, beq_iff_eq]
  constructor
  · intro h; exact UInt8.toNat_inj.1 (Nat.eq_of_beq_eq_true h)
  · intro h; rw [h]; exact Nat.beq_refl _
theorem bytesEq_eq : ∀ a b : List UInt8, bytesEq a b = (a == b)
  | [], [] => rfl
  | [], _ :: _ => rfl
  | _ :: _, [] => rfl
  | a :: x, b :: y => by
    simp only [bytesEq, byte_beq]
    cases h : (a == b) with
    | false => simp [h]
    | true => simp [h, bytesEq_eq x y]
theorem bytesLt_eq : ∀ a b : List UInt8, bytesLt a b = Op.bytesLess a b
  | x, [] => by cases x <;> rfl
  | [], _ :: _ => rfl
  | a :: x, b :: y => by
    simp only [bytesLt, Op.bytesLess, byte_beq]
    have e : Nat.blt a.toNat b.toNat = decide (a < b) := by
      rw [Bool.eq_iff_iff, decide_eq_true_iff, UInt8.lt_iff_toNat_lt]
      exact ⟨fun h => Nat.le_of_ble_eq_true h, fun h => Nat.ble_eq_true_of_le h⟩
    rw [e]
    cases decide (a < b) with
    | true => rfl
    | false => cases (a == b) with
      | true => simp [bytesLt_eq x y]
      | false => rfl


theorem data_size (s : ByteArray) : s.data.toList.length = s.size := (Lib.size_eq s).symm
theorem data_append (x y : ByteArray) : (x ++ y).data.toList = x.data.toList ++ y.data.toList := by rw [ByteArray.data_append, Array.toList_append]

theorem strOp_ok {op : BinOp} {t : TypeId} {x y : ByteArray} {v : AVal} (h : strOp op x.data.toList y.data.toList = some v) :
    ∃ v', (Go.binOp op t (.string x) (.string y)).run P w = .ok v' w ∧ VRel r v v' := by
  cases op with
  | add =>
    simp only [strOp] at h
    split at h
    · rename_i hb
      cases h
      have hb' := Nat.le_of_ble_eq_true hb
      rw [data_size, data_size] at hb'
      refine ⟨.string (x ++ y), ?_, .str _ _ (data_append x y)⟩
      simp only [Go.binOp, Op.stringOp, IntKind.max_i64]
      rw [if_neg (by omega)]
      rfl
    · cases h
  | eql => simp only [strOp, Option.some.injEq] at h; subst h; exact ⟨_, by simp only [Go.binOp, Op.stringOp, Sem.run_pure]; rw [ByteArray.toList_eq, ByteArray.toList_eq, ← bytesEq_eq], .bool _⟩
  | neq => simp only [strOp, Option.some.injEq] at h; subst h; exact ⟨_, by simp only [Go.binOp, Op.stringOp, Sem.run_pure]; rw [ByteArray.toList_eq, ByteArray.toList_eq, ← bytesEq_eq], .bool _⟩
  | lss => simp only [strOp, Option.some.injEq] at h; subst h; exact ⟨_, by simp only [Go.binOp, Op.stringOp, Sem.run_pure]; rw [ByteArray.toList_eq, ByteArray.toList_eq, ← bytesLt_eq], .bool _⟩
  | leq => simp only [strOp, Option.some.injEq] at h; subst h; exact ⟨_, by simp only [Go.binOp, Op.stringOp, Sem.run_pure]; rw [ByteArray.toList_eq, ByteArray.toList_eq, ← bytesLt_eq, ← bytesEq_eq], .bool _⟩
  | gtr => simp only [strOp, Option.some.injEq] at h; subst h; exact ⟨_, by simp only [Go.binOp, Op.stringOp, Sem.run_pure]; rw [ByteArray.toList_eq, ByteArray.toList_eq, ← bytesLt_eq, ← bytesEq_eq], .bool _⟩
  | geq => simp only [strOp, Option.some.injEq] at h; subst h; exact ⟨_, by simp only [Go.binOp, Op.stringOp, Sem.run_pure]; rw [ByteArray.toList_eq, ByteArray.toList_eq, ← bytesLt_eq], .bool _⟩
  | _ => cases h

/-! Equality -/
theorem string_beq (x y : ByteArray) : (x == y) = (x.data.toList == y.data.toList) := by
  cases x with | mk x => cases y with | mk y =>
  show (x == y) = _
  cases x with | mk x => cases y with | mk y =>
  simp

theorem eqCell_ok {t : TypeId} {d : TypeDesc} {x y : AVal} {x' y' : Value} {b : Bool} (hd : P.underlying t = some d) (n : Nat) (hx : VRel r x x') (hy : VRel r y y')
    (h : eqCell d x y = some b) : (Op.equalIn (n + 1) t x' y').run P w = .ok b w := by
  unfold eqCell at h
  split at h
  · cases h; rw [hx.bool_inv, hy.bool_inv]; simp [Op.equalIn, run_underlying hd]
  · rename_i k a k' b
    by_cases c : k = k'
    · rw [if_pos c] at h; cases h; subst c; rw [hx.int_inv, hy.int_inv]; simp [Op.equalIn, run_underlying hd]
    · rw [if_neg c] at h; cases h
  · cases h
    obtain ⟨s1, rfl, e1⟩ := hx.str_inv
    obtain ⟨s2, rfl, e2⟩ := hy.str_inv
    simp only [Op.equalIn, Sem.run_bind, run_underlying hd, Result.andThen_ok, Sem.run_pure]
    rw [bytesEq_eq, ← e1, ← e2, string_beq]
  · cases h; rw [hx.nptr_inv, hy.nptr_inv]; simp [Op.equalIn, run_underlying hd]
  · cases h; rw [hx.nptr_inv]; obtain ⟨B, _, rfl⟩ := hy.ptr_inv; simp [Op.equalIn, run_underlying hd]
  · cases h; rw [hy.nptr_inv]; obtain ⟨B, _, rfl⟩ := hx.ptr_inv; simp [Op.equalIn, run_underlying hd]
  · cases h; rw [hx.niface_inv]; obtain ⟨u, rfl, _⟩ := hy.iface_inv; simp [Op.equalIn, run_underlying hd]
  · cases h; rw [hy.niface_inv]; obtain ⟨u, rfl, _⟩ := hx.iface_inv; simp [Op.equalIn, run_underlying hd]
  · cases h; rw [hx.nslice_inv, hy.nslice_inv]; simp [Op.equalIn, run_underlying hd]
  · cases h; rw [hx.nslice_inv]; obtain ⟨B, a, c, _, rfl, _⟩ := hy.slice_inv; simp [Op.equalIn, run_underlying hd]
  · cases h; rw [hy.nslice_inv]; obtain ⟨B, a, c, _, rfl, _⟩ := hx.slice_inv; simp [Op.equalIn, run_underlying hd]
  · cases h; rw [hx.nmap_inv, hy.nmap_inv]; simp [Op.equalIn, run_underlying hd]
  · cases h; rw [hx.nmap_inv]; obtain ⟨B, _, rfl⟩ := hy.map_inv; simp [Op.equalIn, run_underlying hd]
  · cases h; rw [hy.nmap_inv]; obtain ⟨B, _, rfl⟩ := hx.map_inv; simp [Op.equalIn, run_underlying hd]
  · cases h; rw [hx.nfunc_inv, hy.nfunc_inv]; simp [Op.equalIn, run_underlying hd]
  · cases h; rw [hx.nfunc_inv]; obtain ⟨a, c, rfl, _⟩ := hy.func_inv; simp [Op.equalIn, run_underlying hd]
  · cases h; rw [hy.nfunc_inv]; obtain ⟨a, c, rfl, _⟩ := hx.func_inv; simp [Op.equalIn, run_underlying hd]
  · cases h
end
end Ev
end Go.Proofs.YtfddpaljmihinaaGreatDoor
