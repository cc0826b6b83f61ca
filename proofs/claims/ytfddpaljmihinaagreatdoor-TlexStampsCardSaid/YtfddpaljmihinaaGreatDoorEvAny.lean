/-
  The walk of strings.IndexAny at ten bytes, none of which stands in the set. (Conditions: none.)
-/
import Derived.Test.YtfddpaljmihinaaGreatDoorEvNumber
namespace Go.Proofs.YtfddpaljmihinaaGreatDoor
namespace Cut
open Go Go.RowKit

set_option maxRecDepth 1000000 in
theorem should_walk (n : Int) (w : World) (h : 8 < n) : Calls Tryz.prog 102 #[.int .i64 n] w fun e w' => e = .returned (.bool true) ∧ w' = w := by
  go_enter Tryz.func102, Tryz.ntmps102
  have t0 : decide (8 < n) = true := decide_eq_true h
  clear h
  go_wp2
  go_ret
  exact ⟨rfl, rfl⟩

set_option maxRecDepth 1000000 in
set_option maxHeartbeats 2000000 in
theorem indexAny_none (s set : ByteArray) (cells : Array Value) (w : World) (h10 : s.size = 10) (h2 : 1 < set.size)
    (hmk : ∀ w, Calls Tryz.prog 103 #[.string set] w fun e w' => e = .returned (.tuple #[.agg cells, .bool true]) ∧ Below w.heap.size w w')
    (hcs : cells.size = 256) (hone : ∀ v ∈ cells.toList, v.oneCell' = true) (hall : ∀ (i : Nat) (h : i < s.size), cells[(s[i]'h).toNat]? = some (.bool false)) :
    Calls Tryz.prog 60 #[.string s, .string set] w fun e w' => e = .returned (.int .i64 (-1)) ∧ Below w.heap.size w w' := by
  go_enter Tryz.func60, Tryz.ntmps60
  have t1 : set.toList.isEmpty = false := notEmpty (by omega)
  have t2 : ((set.size : Int) == 1) = false := by rw [beq_eq_false_iff_ne]; omega
  have hz : Tryz.zeroCells127.size = 256 := by kernel_rfl
  have hst : ∀ w' : World, (storeCells ⟨w'.heap.size, 0, none⟩ cells.toList).run Tryz.prog (w'.alloc (.cells Tryz.zeroCells127 127)) = .ok () ((w'.alloc (.cells Tryz.zeroCells127 127)).setRow w'.heap.size cells) := fun w' => by
    have h := run_storeCells_from (P := Tryz.prog) w'.heap.size 127 cells.toList 0 Tryz.zeroCells127 (w'.alloc (.cells Tryz.zeroCells127 127)) (alloc_at _ _) (by rw [Array.length_toList]; omega) hone
    simpa using h
  have hcell : ∀ (w' : World) (i : Nat) (h : i < s.size), ((w'.alloc (.cells Tryz.zeroCells127 127)).setRow w'.heap.size cells).cell? ⟨w'.heap.size, (s[i]'h).toNat, none⟩ = some (.bool false) := fun w' i h => by
    rw [cell_setRow_same _ _ _ Tryz.zeroCells127 _ 127 (0, 0) (alloc_at _ _)]
    exact hall i h
  have hbel : ∀ w' : World, Below w.heap.size w w' → Below w.heap.size w ((w'.alloc (.cells Tryz.zeroCells127 127)).setRow w'.heap.size cells) := fun w' h => below_setRow (h.alloc h.size _) h.size cells
  have hsh := fun w' => should_walk (s.size : Int) w' (by omega)
  have H10 : Hid (s.size = 10) := h10
  clear h2 hz hone hall h10
  go_wp2_with (first
    | (go_at_call 102; refine (hsh _).mono ?_; rintro e w1 ⟨rfl, rfl⟩)
    | (go_at_call 103; refine (hmk _).mono ?_; rintro e w' ⟨rfl, hb1⟩))
  have hb2 := hbel w' hb1
  have hc2 := hcell w'
  obtain ⟨W3, hW3⟩ : ∃ W3, (w'.alloc (.cells Tryz.zeroCells127 127)).setRow w'.heap.size cells = W3 := ⟨_, rfl⟩
  obtain ⟨K, hK⟩ : ∃ K, w'.heap.size = K := ⟨_, rfl⟩
  rw [hK] at hc2 hW3 hb2
  rw [hW3] at hc2 hb2
  rw [hK, hW3]
  clear hst hcell hbel hsh hmk hW3 hK hb1 hcs
  go_loopw [8] (fun i wr => ∃ k : Nat, k ≤ s.size ∧ i = .int .i64 (k : Int) ∧ wr = W3) (fun i _ => s.size - idxOf i)
  case atStart => exact ⟨0, Nat.zero_le _, rfl, rfl⟩
  case round =>
    obtain ⟨k, hk, rfl, rfl⟩ := hrel
    have hs10 := H10.out
    by_cases hlt : k < s.size
    · have hbk := hc2 k hlt
      obtain ⟨c, hc⟩ : ∃ c, (s[k]'hlt).toNat = c := ⟨_, rfl⟩
      have hc3 : c < 256 := by rw [← hc]; exact UInt8.toNat_lt _
      rw [hc] at hbk
      have k1 : decide ((k : Int) < (s.size : Int)) = true := decide_eq_true (by omega)
      have k2 : ((k : Int) < (s.size : Int)) = True := eq_true (by omega)
      have k3 : (0 : Int) ≤ (k : Int) := by omega
      have e5 : wrap64 ((k : Int) + 1) = (k : Int) + 1 := Ev.wrap64_small (by omega) (by omega)
      have hk1 : k + 1 ≤ s.size := by omega
      have hm : s.size - ((k : Int) + 1).toNat < s.size - (k : Int).toNat := by omega
      clear hs10 hc2
      go_wp2_with (first | (go_at_call 104; refine (contains_walk K c false _ hc3 hbk).mono ?_; rintro e w1 ⟨rfl, rfl⟩))
      go_roundw
      case rel => exact ⟨k + 1, hk1, by simp [e5], by first | rfl | trivial⟩
      case measure =>
        show s.size - (wrap64 ((k : Int) + 1)).toNat < s.size - (k : Int).toNat
        rw [e5]
        exact hm
    · have k1 : decide ((k : Int) < (s.size : Int)) = false := decide_eq_false (by omega)
      have k2 : ((k : Int) < (s.size : Int)) = False := eq_false (by omega)
      clear hs10 hc2
      go_wp2
      go_ret
      exact ⟨rfl, hb2⟩

end Cut
end Go.Proofs.YtfddpaljmihinaaGreatDoor
