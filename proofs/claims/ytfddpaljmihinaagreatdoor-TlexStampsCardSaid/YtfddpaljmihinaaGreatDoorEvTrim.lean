/-
  The walks of strings.trimRightASCII, trimLeftASCII and the set's contains, where all bytes stand in the set. (Conditions: the set lies in memory.)
-/
import Derived.Test.YtfddpaljmihinaaGreatDoorEvCut
import Derived.Laws.Tables
import Derived.Laws.CopyOwn
namespace Go.Proofs.YtfddpaljmihinaaGreatDoor
namespace Cut
open Go.RowKit

theorem contains_walk (b x : Nat) (v : Bool) (w : World) (hx : x < 256) (hc : w.cell? ⟨b, x, none⟩ = some (.bool v)) :
    Calls Tryz.prog 104 #[.pointer (some ⟨b, 0, none⟩), .int .u8 (x : Int)] w fun e w' => e = .returned (.bool v) ∧ w' = w := by
  go_enter Tryz.func104, Tryz.ntmps104
  have h1 : (x : Int) < 256 := by omega
  have h2 : (0 : Int) ≤ (x : Int) := by omega
  go_wp2
  go_ret
  exact ⟨rfl, rfl⟩

set_option maxRecDepth 1000000 in
set_option maxHeartbeats 2000000 in
theorem trimRight_walk (s : ByteArray) (b : Nat) (w : World) (hsz : s.size < 140737488351232) (hall : ∀ (i : Nat) (h : i < s.size), w.cell? ⟨b, (s[i]'h).toNat, none⟩ = some (.bool true)) :
    Calls Tryz.prog 160 #[.string s, .pointer (some ⟨b, 0, none⟩)] w fun e w' => e = .returned (.string (s.extract 0 0)) ∧ w' = w := by
  go_enter Tryz.func160, Tryz.ntmps160
  go_wp2
  go_loopw [0] (fun v wr => ∃ k : Nat, v = .string (s.extract 0 k) ∧ k ≤ s.size ∧ wr = w) (fun v _ => strLen v)
  case atStart => exact ⟨s.size, by rw [extract_full], Nat.le_refl _, rfl⟩
  case round =>
    obtain ⟨k, rfl, hk, rfl⟩ := hrel
    have hek := extract_size s k hk
    cases k with
    | zero =>
      obtain ⟨z, hz⟩ : ∃ z, s.extract 0 0 = z := ⟨_, rfl⟩
      rw [hz] at hek ⊢
      have HZ : Hid (s.extract 0 0 = z) := hz
      clear hz
      have t0 : decide (0 < z.size) = false := decide_eq_false (by omega)
      have t1 : (0 < z.size) = False := eq_false (by omega)
      clear hek
      go_wp2
      go_ret
      exact ⟨by rw [HZ.out]; rfl, rfl⟩
    | succ k =>
      have hbk := hall k (by omega)
      have hcut : (s.extract 0 (k + 1)).extract 0 k = s.extract 0 k := extract_extract0 s (k + 1) k (by omega)
      have hby : ∀ h : k < (s.extract 0 (k + 1)).size, ((s.extract 0 (k + 1))[k]'h).toNat = (s[k]'(by omega)).toNat := fun h => by rw [extract_byte s (k + 1) k hk h]
      obtain ⟨c, hc⟩ : ∃ c, (s[k]'(by omega)).toNat = c := ⟨_, rfl⟩
      have hc2 : c < 256 := by rw [← hc]; exact UInt8.toNat_lt _
      rw [hc] at hbk
      obtain ⟨z, hz⟩ : ∃ z, s.extract 0 (k + 1) = z := ⟨_, rfl⟩
      have hbz : ∀ h : k < z.size, (z[k]'h).toNat = c := fun h => by subst hz; rw [hby h, hc]
      rw [hz] at hcut hek
      rw [hz]
      clear hz hby hc hall
      have hkz : k < z.size := by omega
      have t9 := hbz hkz
      have t0 : decide (0 < z.size) = true := decide_eq_true (by omega)
      have t1 : (0 < z.size) = True := eq_true (by omega)
      have t2 : wrap64 ((z.size : Int) - 1) = (k : Int) := by unfold wrap64; omega
      have t3 : (k : Int) ≤ (z.size : Int) := by omega
      have t4 : (0 : Int) ≤ (k : Int) := by omega
      have t5 : (k : Int) < (z.size : Int) := by omega
      have HK : Hid (z.size = k + 1) := hek
      clear hek hbz
      go_wp2_with (first | (go_at_call 104; refine (contains_walk b c true _ hc2 hbk).mono ?_; rintro e w' ⟨rfl, rfl⟩))
      go_roundw
      case rel => exact ⟨k, by first | rfl | rw [← hcut], by omega, by first | rfl | trivial⟩
      case measure =>
        show (s.extract 0 k).size < z.size
        rw [extract_size s k (by omega), HK.out]
        omega

set_option maxRecDepth 1000000 in
theorem trimLeft_nil (s : ByteArray) (b : Nat) (w : World) (h : s.size = 0) :
    Calls Tryz.prog 124 #[.string s, .pointer (some ⟨b, 0, none⟩)] w fun e w' => e = .returned (.string s) ∧ w' = w := by
  go_enter Tryz.func124, Tryz.ntmps124
  have t0 : decide (0 < s.size) = false := decide_eq_false (by omega)
  have t1 : (0 < s.size) = False := eq_false (by omega)
  clear h
  go_wp2
  go_loopw [0] (fun v wr => v = .string s ∧ wr = w) (fun v _ => strLen v)
  case atStart => exact ⟨rfl, rfl⟩
  case round =>
    obtain ⟨rfl, rfl⟩ := hrel
    go_wp2
    go_ret
    exact ⟨rfl, rfl⟩

theorem alloc_at (w : World) (o : Obj) : (w.alloc o).heap[w.heap.size]? = some o := by
  show (w.heap.push o)[w.heap.size]? = some o
  exact Array.getElem?_push_size

theorem notEmpty {s : ByteArray} (h0 : 0 < s.size) : s.toList.isEmpty = false := by
  cases h : s.toList with
  | nil =>
    rw [ByteArray.toList_eq] at h
    have : s.size = 0 := by rw [← ByteArray.size_data, ← Array.length_toList, h]; rfl
    omega
  | cons a l => rfl

set_option maxRecDepth 1000000 in
set_option maxHeartbeats 2000000 in
/-- strings.Trim at a text whose bytes all stand in the set: what the set is, is told by a contract of makeASCIISet. -/
theorem trim_walk (s set : ByteArray) (cells : Array Value) (w : World) (h0 : 0 < s.size) (hsz : s.size < 140737488351232) (h2 : 1 < set.size)
    (hmk : ∀ w, Calls Tryz.prog 103 #[.string set] w fun e w' => e = .returned (.tuple #[.agg cells, .bool true]) ∧ Below w.heap.size w w')
    (hcs : cells.size = 256) (hone : ∀ v ∈ cells.toList, v.oneCell' = true) (hall : ∀ (i : Nat) (h : i < s.size), cells[(s[i]'h).toNat]? = some (.bool true)) :
    Calls Tryz.prog 121 #[.string s, .string set] w fun e w' => e = .returned (.string (s.extract 0 0)) ∧ Below w.heap.size w w' := by
  go_enter Tryz.func121, Tryz.ntmps121
  have t0 : s.toList.isEmpty = false := notEmpty h0
  have t1 : set.toList.isEmpty = false := notEmpty (by omega)
  have t2 : ((set.size : Int) == 1) = false := by rw [beq_eq_false_iff_ne]; omega
  have hz : Tryz.zeroCells127.size = 256 := by kernel_rfl
  have hst : ∀ w' : World, (storeCells ⟨w'.heap.size, 0, none⟩ cells.toList).run Tryz.prog (w'.alloc (.cells Tryz.zeroCells127 127)) = .ok () ((w'.alloc (.cells Tryz.zeroCells127 127)).setRow w'.heap.size cells) := fun w' => by
    have h := run_storeCells_from (P := Tryz.prog) w'.heap.size 127 cells.toList 0 Tryz.zeroCells127 (w'.alloc (.cells Tryz.zeroCells127 127)) (alloc_at _ _) (by rw [Array.length_toList]; omega) hone
    simpa using h
  have hcell : ∀ (w' : World) (i : Nat) (h : i < s.size), ((w'.alloc (.cells Tryz.zeroCells127 127)).setRow w'.heap.size cells).cell? ⟨w'.heap.size, (s[i]'h).toNat, none⟩ = some (.bool true) := fun w' i h => by
    rw [cell_setRow_same _ _ _ Tryz.zeroCells127 _ 127 (0, 0) (alloc_at _ _)]
    exact hall i h
  have hbel : ∀ w' : World, Below w.heap.size w w' → Below w.heap.size w ((w'.alloc (.cells Tryz.zeroCells127 127)).setRow w'.heap.size cells) := fun w' h => below_setRow (h.alloc h.size _) h.size cells
  have HZ : Hid (Tryz.zeroCells127.size = 256) := hz
  have he0 : (s.extract 0 0).size = 0 := extract_size s 0 (by omega)
  have hleft := fun b w' => trimLeft_nil (s.extract 0 0) b w' he0
  have hR : ∀ (b : Nat) (w' : World), (∀ (i : Nat) (h : i < s.size), w'.cell? ⟨b, (s[i]'h).toNat, none⟩ = some (.bool true)) → Calls Tryz.prog 160 #[.string s, .pointer (some ⟨b, 0, none⟩)] w' fun e w'' => e = .returned (.string (s.extract 0 0)) ∧ w'' = w' := fun b w' h => trimRight_walk s b w' hsz h
  generalize s.extract 0 0 = z at *
  clear h2 hz hone hall he0
  go_wp2_with (first
    | (go_at_call 103; refine (hmk _).mono ?_; rintro e w' ⟨rfl, hb1⟩)
    | (go_at_call 160; refine (hR _ _ (hcell _)).mono ?_; rintro e w'' ⟨rfl, rfl⟩)
    | (go_at_call 124; refine (hleft _ _).mono ?_; rintro e w'' ⟨rfl, rfl⟩))
  go_ret
  exact ⟨rfl, hbel _ hb1⟩

end Cut
end Go.Proofs.YtfddpaljmihinaaGreatDoor
