/-
  The walks of tlex.cutLeft and tlex.cutRight: a text without the runes of a set at its begin, at its end. (Conditions: none.)
-/
import Derived.Test.YtfddpaljmihinaaGreatDoorProg
import Derived.WalkKit
import Derived.WalkSpells
import Derived.Deep.LoopGhost
import Derived.Lib.OthersKept
import Derived.BigQuiet
import Derived.Deep.QuietTactic
import Derived.Laws.RangeAny
namespace Go.Proofs.YtfddpaljmihinaaGreatDoor
namespace Cut
open Go.RowKit

/-- Does a rune stand in a set, from a place on? -/
def inFrom (set : ByteArray) (c : Nat) : Nat → Nat → Bool → Bool
  | 0, _, b => b
  | f + 1, p, b => if p < set.size then inFrom set c f (p + (Utf8.decode set p).2) (b || ((c : Int) == ((Utf8.decode set p).1 : Int))) else b

def inSet (set : ByteArray) (c : Nat) : Bool := inFrom set c set.size 0 false

/-- A text from a place on, without the runes of a set at its begin. -/
def cutFrom (s set : ByteArray) : Nat → Nat → ByteArray
  | 0, _ => ⟨#[]⟩
  | f + 1, p => if p < s.size then (if inSet set (Utf8.decode s p).1 = true then cutFrom s set f (p + (Utf8.decode s p).2) else s.extract p s.size) else ⟨#[]⟩

def cutL (s set : ByteArray) : ByteArray := cutFrom s set s.size 0

theorem inFrom_end (set : ByteArray) (c : Nat) (f p : Nat) (b : Bool) (h : ¬ p < set.size) : inFrom set c f p b = b := by cases f <;> simp [inFrom, h]

theorem cutFrom_end (s set : ByteArray) (f p : Nat) (h : ¬ p < s.size) : cutFrom s set f p = ⟨#[]⟩ := by cases f <;> simp [cutFrom, h]

theorem iterPos_of {w : World} {k : Nat} {s : ByteArray} {p : Nat} (h : w.heap[k]? = some (.stringIter s p)) : w.iterPos k = p := by simp [World.iterPos, h]

theorem width_pos (s : ByteArray) (pos : Nat) (h : pos < s.size) : 1 ≤ (Utf8.decode s pos).2 := by
  by_cases ha : (s[pos]'h).toNat < 128
  · rw [decode_ascii s pos h ha]
    exact Nat.le_refl _
  · exact (decode_high s pos h (by omega)).2

set_option maxRecDepth 1000000 in
set_option maxHeartbeats 2000000 in
theorem cutLeft_walk (s set : ByteArray) (w : World) : Calls Tryz.prog 94 #[.string s, .string set] w fun e w' => e = .returned (.string (cutL s set)) ∧ Below w.heap.size w w' := by
  go_enter Tryz.func94, Tryz.ntmps94
  go_wp2
  go_loopw [4] (fun v wr => v = .string ⟨#[]⟩ ∧ ∃ pos fuel : Nat, wr.heap[w.heap.size]? = some (.stringIter s pos) ∧ Below w.heap.size w wr ∧ Hid (cutFrom s set fuel pos = cutL s set) ∧ s.size ≤ pos + fuel) (fun _ wr => s.size - wr.iterPos w.heap.size)
  case atStart => exact ⟨rfl, 0, s.size, World.iter_heap w s 0, (Below.refl _ _).alloc (Nat.le_refl _) _, rfl, by omega⟩
  case round =>
    obtain ⟨rfl, pos, fuel, hit, hbw, HS, hb⟩ := hrel
    have hpos0 := iterPos_of hit
    by_cases hp : pos < s.size
    · have hnx : ∀ ty, (Instr.next (.pointer (some ⟨w.heap.size, 0, none⟩)) true ty).run Tryz.prog wr = _ := fun ty => Lib.run_next_any_at wr w.heap.size s pos ty hit hp
      obtain ⟨fuel, rfl⟩ : ∃ f', fuel = f' + 1 := ⟨fuel - 1, by omega⟩
      have hwd := width_pos s pos hp
      have hit2 := Lib.iterAt_heap wr w.heap.size s pos (pos + (Utf8.decode s pos).2) hit
      have hbw2 := Lib.below_iterAt hbw (k := w.heap.size) (Nat.le_refl _) s (pos + (Utf8.decode s pos).2)
      have hst : cutFrom s set (fuel + 1) pos = if inSet set (Utf8.decode s pos).1 = true then cutFrom s set fuel (pos + (Utf8.decode s pos).2) else s.extract pos s.size := by simp [cutFrom, hp]
      obtain ⟨W1, hW1⟩ : ∃ W1, W1 = wr.iterAt w.heap.size s (pos + (Utf8.decode s pos).2) := ⟨_, rfl⟩
      rw [← hW1] at hnx hit2 hbw2
      have hBlt := lt_of_block hit2
      clear hW1 hit hbw
      go_wp2
      go_loopw [7] (fun v wi => ∃ (pos2 fuel2 : Nat) (b : Bool), v = .bool b ∧ wi.heap[W1.heap.size]? = some (.stringIter set pos2) ∧ wi.heap[w.heap.size]? = some (.stringIter s (pos + (Utf8.decode s pos).2)) ∧ Below w.heap.size w wi ∧ Hid (inFrom set (Utf8.decode s pos).1 fuel2 pos2 b = inSet set (Utf8.decode s pos).1) ∧ set.size ≤ pos2 + fuel2) (fun _ wi => set.size - wi.iterPos W1.heap.size)
      case atStart => exact ⟨0, set.size, false, rfl, World.iter_heap W1 set 0, (Below.heap_alloc _ _ _ hBlt).trans hit2, hbw2.alloc (by omega) _, rfl, by omega⟩
      case round =>
        obtain ⟨pos2, fuel2, b, rfl, hit3, hit4, hbw3, HS2, hb2⟩ := hrel
        have hpos2 := iterPos_of hit3
        by_cases hp2 : pos2 < set.size
        · have hnx2 : ∀ ty, (Instr.next (.pointer (some ⟨W1.heap.size, 0, none⟩)) true ty).run Tryz.prog wr = _ := fun ty => Lib.run_next_any_at wr W1.heap.size set pos2 ty hit3 hp2
          obtain ⟨fuel2, rfl⟩ : ∃ f', fuel2 = f' + 1 := ⟨fuel2 - 1, by omega⟩
          have hwd2 := width_pos set pos2 hp2
          have hit5 := Lib.iterAt_heap wr W1.heap.size set pos2 (pos2 + (Utf8.decode set pos2).2) hit3
          have hbw4 := Lib.below_iterAt hbw3 (k := W1.heap.size) (by omega) set (pos2 + (Utf8.decode set pos2).2)
          have hit6 : (wr.iterAt W1.heap.size set (pos2 + (Utf8.decode set pos2).2)).heap[w.heap.size]? = _ := (Lib.iterAt_other _ _ _ _ _ (by omega)).trans hit4
          have hst2 : inFrom set (Utf8.decode s pos).1 (fuel2 + 1) pos2 b = inFrom set (Utf8.decode s pos).1 fuel2 (pos2 + (Utf8.decode set pos2).2) (b || (((Utf8.decode s pos).1 : Int) == ((Utf8.decode set pos2).1 : Int))) := by simp [inFrom, hp2]
          obtain ⟨W2, hW2⟩ : ∃ W2, W2 = wr.iterAt W1.heap.size set (pos2 + (Utf8.decode set pos2).2) := ⟨_, rfl⟩
          rw [← hW2] at hnx2 hit5 hbw4 hit6
          clear hW2 hit3 hit4 hbw3 hit2 hbw2
          have HS3 : Hid (inFrom set (Utf8.decode s pos).1 fuel2 (pos2 + (Utf8.decode set pos2).2) (b || (((Utf8.decode s pos).1 : Int) == ((Utf8.decode set pos2).1 : Int))) = inSet set (Utf8.decode s pos).1) := hst2.symm.trans HS2
          clear HS2 hst2 hst
          cases b with
          | true =>
            go_wp2
            go_roundw
            case rel => exact ⟨_, fuel2, true, rfl, hit5, hit6, hbw4, HS3, by omega⟩
            case measure => rw [iterPos_of hit5, hpos2]; omega
          | false =>
            go_wp2
            go_roundw
            case rel => exact ⟨_, fuel2, _, rfl, hit5, hit6, hbw4, HS3, by omega⟩
            case measure => rw [iterPos_of hit5, hpos2]; omega
        · have hnx2 : ∀ ty, (Instr.next (.pointer (some ⟨W1.heap.size, 0, none⟩)) true ty).run Tryz.prog wr = _ := fun ty => Lib.run_next_end_at wr W1.heap.size set pos2 ty hit3 hp2
          have hin : b = inSet set (Utf8.decode s pos).1 := by rw [← HS2.out]; exact (inFrom_end set _ fuel2 pos2 b hp2).symm
          clear hit2 hbw2 HS2
          cases b with
          | true =>
            have HS4 : Hid (cutFrom s set fuel (pos + (Utf8.decode s pos).2) = cutL s set) := by
              have h := HS.out
              rw [hst, if_pos hin.symm] at h
              exact h
            clear HS hst hin
            go_wp2
            go_roundw
            case rel => exact ⟨rfl, _, fuel, hit4, hbw3, HS4, by omega⟩
            case measure => rw [iterPos_of hit4, hpos0]; omega
          | false =>
            have e : cutL s set = s.extract pos s.size := by
              have h := HS.out
              rw [hst, if_neg (by rw [← hin]; decide)] at h
              exact h.symm
            clear HS hst hin
            have hle : (pos : Int) ≤ (s.size : Int) := by omega
            have h0 : (0 : Int) ≤ (pos : Int) := by omega
            go_wp2
            go_ret
            exact ⟨by rw [e]; rfl, hbw3⟩
    · have hnx : ∀ ty, (Instr.next (.pointer (some ⟨w.heap.size, 0, none⟩)) true ty).run Tryz.prog wr = _ := fun ty => Lib.run_next_end_at wr w.heap.size s pos ty hit hp
      have e : cutL s set = ⟨#[]⟩ := by rw [← HS.out]; exact cutFrom_end s set fuel pos hp
      go_wp2
      go_ret
      exact ⟨by rw [e]; rfl, hbw⟩

/-! ### At the end -/
def strLen : Value → Nat
  | .string b => b.size
  | _ => 0

theorem decodeLast (s : ByteArray) (k : Nat) (hk : s.size = k + 1) (hsz : k < 140737488351232) (c : Nat) (hc : ∀ h : k < s.size, (s[k]'h).toNat = c) (hb : c < 128) (w : World) :
    Calls Tryz.prog 150 #[.string s] w fun e w' => e = .returned (.tuple #[.int .i32 (c : Int), .int .i64 1]) ∧ w' = w := by
  go_enter Tryz.func150, Tryz.ntmps150
  have h0 : ((k : Int) + 1 == 0) = false := by rw [beq_eq_false_iff_ne]; omega
  have h1 : wrap64 (k : Int) = (k : Int) := by unfold wrap64; omega
  have h2 : (0 : Int) ≤ (k : Int) := by omega
  have h3 : (k : Int) < (k : Int) + 1 := by omega
  have h4 : k < s.size := by omega
  have h5 := hc h4
  have h6 : wrap32 (c : Int) = (c : Int) := by unfold wrap32; omega
  have h7 : (c : Int) < 128 := by omega
  clear hc hb hsz
  go_wp2
  go_ret2
  exact ⟨rfl, rfl⟩

/-- A text's first bytes, without the runes of a set at their end. -/
def cutREnd (s set : ByteArray) : Nat → ByteArray
  | 0 => s.extract 0 0
  | n + 1 => if inSet set (if h : n < s.size then (s[n]'h).toNat else 0) = true then cutREnd s set n else s.extract 0 (n + 1)

def cutR (s set : ByteArray) : ByteArray := cutREnd s set s.size

theorem extract_full (s : ByteArray) : s.extract 0 s.size = s := by
  apply ByteArray.ext
  rw [ByteArray.data_extract]
  exact Array.extract_size

theorem extract_extract0 (s : ByteArray) (a b : Nat) (h : b ≤ a) : (s.extract 0 a).extract 0 b = s.extract 0 b := by
  apply ByteArray.ext
  rw [ByteArray.data_extract, ByteArray.data_extract, ByteArray.data_extract]
  apply Array.toList_inj.1
  simp [List.extract_eq_take_drop, Nat.min_eq_left h]

theorem extract_size (s : ByteArray) (a : Nat) (h : a ≤ s.size) : (s.extract 0 a).size = a := by
  rw [ByteArray.size_extract]
  omega

theorem extract_byte (s : ByteArray) (a i : Nat) (ha : a ≤ s.size) (h : i < (s.extract 0 a).size) : (s.extract 0 a)[i]'h = s[i]'(by rw [extract_size s a ha] at h; omega) := by
  rw [ByteArray.getElem_extract]
  simp

set_option maxRecDepth 1000000 in
set_option maxHeartbeats 2000000 in
theorem cutRight_walk (s set : ByteArray) (w : World) (hsz : s.size < 140737488351232) (hall : ∀ (i : Nat) (h : i < s.size), (s[i]'h).toNat < 128) :
    Calls Tryz.prog 93 #[.string s, .string set] w fun e w' => e = .returned (.string (cutR s set)) ∧ Below w.heap.size w w' := by
  go_enter Tryz.func93, Tryz.ntmps93
  go_wp2
  go_loopw [0] (fun v wr => ∃ k : Nat, v = .string (s.extract 0 k) ∧ k ≤ s.size ∧ Below w.heap.size w wr ∧ Hid (cutREnd s set k = cutR s set)) (fun v _ => strLen v)
  case atStart => exact ⟨s.size, by rw [extract_full], Nat.le_refl _, Below.refl _ _, rfl⟩
  case round =>
    obtain ⟨k, rfl, hk, hbw, HS⟩ := hrel
    have hek := extract_size s k hk
    cases k with
    | zero =>
      have e : cutR s set = s.extract 0 0 := HS.out.symm
      generalize s.extract 0 0 = z at *
      have t0 : decide (0 < z.size) = false := decide_eq_false (by omega)
      have t1 : (0 < z.size) = False := eq_false (by omega)
      clear hek HS
      go_wp2
      go_ret
      exact ⟨by rw [e]; rfl, hbw⟩
    | succ k =>
      have hbk := hall k (by omega)
      have hst : cutREnd s set (k + 1) = if inSet set (s[k]'(by omega)).toNat = true then cutREnd s set k else s.extract 0 (k + 1) := by simp only [cutREnd]; rw [dif_pos (by omega)]
      have hcut : (s.extract 0 (k + 1)).extract 0 k = s.extract 0 k := extract_extract0 s (k + 1) k (by omega)
      have hby : ∀ h : k < (s.extract 0 (k + 1)).size, ((s.extract 0 (k + 1))[k]'h).toNat = (s[k]'(by omega)).toNat := fun h => by rw [extract_byte s (k + 1) k hk h]
      obtain ⟨c, hc⟩ : ∃ c, (s[k]'(by omega)).toNat = c := ⟨_, rfl⟩
      rw [hc] at hbk hst
      obtain ⟨z, hz⟩ : ∃ z, s.extract 0 (k + 1) = z := ⟨_, rfl⟩
      rw [hz] at hst hcut hek
      have hdl := fun w' => decodeLast z k hek (by omega) c (fun h => by subst hz; rw [hby h, hc]) hbk w'
      rw [hz]
      clear hz hby hc hall
      have t0 : decide (0 < z.size) = true := decide_eq_true (by omega)
      have t1 : (0 < z.size) = True := eq_true (by omega)
      have t2 : wrap64 ((z.size : Int) - 1) = (k : Int) := by unfold wrap64; omega
      have t3 : (k : Int) ≤ (z.size : Int) := by omega
      have t4 : (0 : Int) ≤ (k : Int) := by omega
      have HK : Hid (z.size = k + 1) := hek
      clear hek
      obtain ⟨K, hK⟩ : ∃ K, K = wr.heap.size := ⟨_, rfl⟩
      have hBle : w.heap.size ≤ K := by rw [hK]; exact hbw.size
      go_wp2_with (first | (go_at_call 150; refine (hdl _).mono ?_; rintro e w' ⟨rfl, rfl⟩))
      rw [← hK]
      have HK2 : Hid (K = _) := hK
      clear hK
      go_loopw [7] (fun v wi => ∃ (pos2 fuel2 : Nat) (b : Bool), v = .bool b ∧ wi.heap[K]? = some (.stringIter set pos2) ∧ Below w.heap.size w wi ∧ Hid (inFrom set c fuel2 pos2 b = inSet set c) ∧ set.size ≤ pos2 + fuel2) (fun _ wi => set.size - wi.iterPos K)
      case atStart => exact ⟨0, set.size, false, rfl, by rw [HK2.out]; exact World.iter_heap _ set 0, hbw.alloc hbw.size _, rfl, by omega⟩
      case round =>
        obtain ⟨pos2, fuel2, b, rfl, hit3, hbw3, HS2, hb2⟩ := hrel
        have hpos2 := iterPos_of hit3
        by_cases hp2 : pos2 < set.size
        · have hnx2 : ∀ ty, (Instr.next (.pointer (some ⟨K, 0, none⟩)) true ty).run Tryz.prog wr = _ := fun ty => Lib.run_next_any_at wr K set pos2 ty hit3 hp2
          obtain ⟨fuel2, rfl⟩ : ∃ f', fuel2 = f' + 1 := ⟨fuel2 - 1, by omega⟩
          have hwd2 := width_pos set pos2 hp2
          have hit5 := Lib.iterAt_heap wr K set pos2 (pos2 + (Utf8.decode set pos2).2) hit3
          have hbw4 := Lib.below_iterAt hbw3 (k := K) hBle set (pos2 + (Utf8.decode set pos2).2)
          have hst2 : inFrom set c (fuel2 + 1) pos2 b = inFrom set c fuel2 (pos2 + (Utf8.decode set pos2).2) (b || ((c : Int) == ((Utf8.decode set pos2).1 : Int))) := by simp [inFrom, hp2]
          obtain ⟨W2, hW2⟩ : ∃ W2, W2 = wr.iterAt K set (pos2 + (Utf8.decode set pos2).2) := ⟨_, rfl⟩
          rw [← hW2] at hnx2 hit5 hbw4
          clear hW2 hit3 hbw3 hbw
          have HS3 : Hid (inFrom set c fuel2 (pos2 + (Utf8.decode set pos2).2) (b || ((c : Int) == ((Utf8.decode set pos2).1 : Int))) = inSet set c) := hst2.symm.trans HS2
          clear HS2 hst2 hst hdl
          cases b with
          | true =>
            go_wp2
            go_roundw
            case rel => exact ⟨_, fuel2, true, rfl, hit5, hbw4, HS3, by omega⟩
            case measure => rw [iterPos_of hit5, hpos2]; omega
          | false =>
            go_wp2
            go_roundw
            case rel => exact ⟨_, fuel2, _, rfl, hit5, hbw4, HS3, by omega⟩
            case measure => rw [iterPos_of hit5, hpos2]; omega
        · have hnx2 : ∀ ty, (Instr.next (.pointer (some ⟨K, 0, none⟩)) true ty).run Tryz.prog wr = _ := fun ty => Lib.run_next_end_at wr K set pos2 ty hit3 hp2
          have hin : b = inSet set c := by rw [← HS2.out]; exact (inFrom_end set _ fuel2 pos2 b hp2).symm
          clear HS2 hdl hbw
          cases b with
          | true =>
            have HS4 : Hid (cutREnd s set k = cutR s set) := by
              have h := HS.out
              rw [hst, if_pos hin.symm] at h
              exact h
            clear HS hst hin
            have hzk : (z.extract 0 k).size = k := by rw [hcut]; exact extract_size s k (by omega)
            go_wp2
            go_roundw
            case rel => exact ⟨k, by rw [← hcut], by omega, hbw3, HS4⟩
            case measure =>
              rw [hcut] at hzk
              show (s.extract 0 k).size < z.size
              rw [hzk, HK.out]
              omega
          | false =>
            have e : cutR s set = z := by
              have h := HS.out
              rw [hst, if_neg (by rw [← hin]; decide)] at h
              exact h.symm
            clear HS hst hin
            go_wp2
            go_ret
            exact ⟨by rw [e]; rfl, hbw3⟩

end Cut
end Go.Proofs.YtfddpaljmihinaaGreatDoor
