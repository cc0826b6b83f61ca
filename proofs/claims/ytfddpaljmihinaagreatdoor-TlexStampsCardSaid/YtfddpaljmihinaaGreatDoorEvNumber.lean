/-
  The walk of tlex.number at a row of at most nine digits. (Conditions: none.)
-/
import Derived.Test.YtfddpaljmihinaaGreatDoorEvRuns
import Derived.Lib.ConvBytes
import Derived.Laws.BytesArg
namespace Go.Proofs.YtfddpaljmihinaaGreatDoor
namespace Cut
open Go.RowKit Go.Lib

theorem below_bytes {B : Nat} {w w1 : World} (h : Below B w w1) (hB : B ≤ w1.heap.size) (e : TypeId) (s : ByteArray) : Below B w (bytesWorld w1 e s) :=
  h.trans ⟨rfl, rfl, rfl, by rw [bytesWorld_size]; omega, fun j hj => bytesWorld_at_old w1 e s j (by omega)⟩

theorem valFrom_append : ∀ (l1 l2 : List UInt8) (v : Int), valFrom (l1 ++ l2) v = valFrom l2 (valFrom l1 v) := by
  intro l1
  induction l1 with
  | nil => intros; rfl
  | cons b r ih => intro l2 v; exact ih l2 _

theorem valFrom_take {l : List UInt8} {k : Nat} (h : k < l.length) : valFrom (l.take (k + 1)) 0 = valFrom (l.take k) 0 * 10 + ((l[k].toNat : Int) - 48) := by
  rw [List.take_succ_eq_append_getElem h, valFrom_append]
  rfl

theorem valFrom_bounds {l : List UInt8} (hd : l.all isDig = true) : ∀ k, k ≤ l.length → 0 ≤ valFrom (l.take k) 0 ∧ valFrom (l.take k) 0 < 10 ^ k := by
  intro k
  induction k with
  | zero => intro _; simp [valFrom]
  | succ k ih =>
    intro h
    obtain ⟨h1, h2⟩ := ih (by omega)
    have hb := List.all_eq_true.1 hd l[k] (List.getElem_mem (by omega))
    simp only [isDig, Bool.and_eq_true, decide_eq_true_eq] at hb
    rw [valFrom_take (by omega), Int.pow_succ]
    omega

theorem pow_bound {V : Int} {k : Nat} (h : V < 10 ^ k) (hk : k < 9) : V < 1000000000 := by
  have : k = 0 ∨ k = 1 ∨ k = 2 ∨ k = 3 ∨ k = 4 ∨ k = 5 ∨ k = 6 ∨ k = 7 ∨ k = 8 := by omega
  rcases this with rfl | rfl | rfl | rfl | rfl | rfl | rfl | rfl | rfl <;> simp at h <;> omega

theorem num_facts {V : Int} {c k : Nat} (h0 : 0 ≤ V) (h1 : V < 1000000000) (hc : 48 ≤ c ∧ c ≤ 57) (hk : k < 9) :
    wrap64 (V * 10) = V * 10 ∧ ((c : Int) - 48) % 256 = (c : Int) - 48 ∧ wrap64 (V * 10 + ((c : Int) - 48)) = V * 10 + ((c : Int) - 48) ∧ wrap64 ((k : Int) + 1) = (k : Int) + 1 :=
  ⟨Ev.wrap64_small (by omega) (by omega), by omega, Ev.wrap64_small (by omega) (by omega), Ev.wrap64_small (by omega) (by omega)⟩

def idxOf : Value → Nat
  | .int _ i => i.toNat
  | _ => 0

set_option maxRecDepth 1000000 in
set_option maxHeartbeats 2000000 in
theorem number_walk (s : ByteArray) (w : World) (h0 : 0 < s.size) (h9 : s.size ≤ 9) (hd : s.data.toList.all isDig = true)
    (hT : ∀ w, Calls Tryz.prog 121 #[.string s, .string ⟨#[48, 49, 50, 51, 52, 53, 54, 55, 56, 57]⟩] w fun e w' => e = .returned (.string (s.extract 0 0)) ∧ Below w.heap.size w w') :
    Calls Tryz.prog 71 #[.string s] w fun e w' => e = .returned (.int .i64 (valFrom s.data.toList 0)) ∧ Below w.heap.size w w' := by
  have t0 : s.toList.isEmpty = false := notEmpty h0
  have t1 : (s.extract 0 0).toList.isEmpty = true := by
    have : (s.extract 0 0).size = 0 := extract_size s 0 (by omega)
    cases h : (s.extract 0 0).toList with
    | nil => rfl
    | cons a l => rw [ByteArray.toList_eq] at h; rw [← ByteArray.size_data, ← Array.length_toList, h] at this; cases this
  generalize s.extract 0 0 = z at *
  have hcv : ∀ w1 : World, (convert 9 34 (.string s)).run Tryz.prog w1 = Result.ok (.slice (some ⟨w1.heap.size, 0, none⟩) s.size (grownCap w1 s.size 0 5)) (bytesWorld w1 5 s) := fun w1 => Go.Lib.run_convert_string_bytes w1 9 34 5 s Tryz.underlying9 Tryz.underlying34 Tryz.underlying5
  have hbel : ∀ w1 : World, Below w.heap.size w w1 → Below w.heap.size w (bytesWorld w1 5 s) := fun w1 h => below_bytes h h.size 5 s
  have hcells : ∀ (w1 : World) (j : Nat), j < s.size → (bytesWorld w1 5 s).cell? ⟨w1.heap.size, j, none⟩ = some (.int .u8 (s.data.toList.getD j 0).toNat) := fun w1 j h => bytesWorld_cell w1 5 s j h
  go_enter Tryz.func71, Tryz.ntmps71
  go_wp2_with (first | (go_at_call 121; refine (hT _).mono ?_; rintro e w1 ⟨rfl, hb1⟩))
  obtain ⟨W1, hW1⟩ : ∃ W1, bytesWorld w1 5 s = W1 := ⟨_, rfl⟩
  have hb2 := hbel w1 hb1
  have hc2 := hcells w1
  rw [hW1] at hb2 hc2 ⊢
  obtain ⟨K, hK⟩ : ∃ K, w1.heap.size = K := ⟨_, rfl⟩
  obtain ⟨cp, hcp⟩ : ∃ cp, grownCap w1 s.size 0 5 = cp := ⟨_, rfl⟩
  rw [hK, hcp]
  rw [hK] at hc2
  clear hW1 hbel hcells hcv hT hK hcp hb1
  go_loopw [3, 16] (fun v i wr => ∃ (k : Nat) (V : Int), k ≤ s.size ∧ i = .int .i64 (k : Int) ∧ v = .int .i64 V ∧ Hid (V = valFrom (s.data.toList.take k) 0) ∧ wr = W1) (fun _ i _ => s.size - idxOf i)
  case atStart => exact ⟨0, 0, Nat.zero_le _, rfl, rfl, rfl, rfl⟩
  case round =>
    obtain ⟨k, V, hk, rfl, rfl, HV, rfl⟩ := hrel
    have hlen : s.data.toList.length = s.size := Array.length_toList
    by_cases hlt : k < s.size
    · have hcell := hc2 k hlt
      have hcd := List.all_eq_true.1 hd s.data.toList[k] (List.getElem_mem (by omega))
      simp only [isDig, Bool.and_eq_true, decide_eq_true_eq] at hcd
      have hgd : s.data.toList.getD k 0 = s.data.toList[k] := by simp [List.getD, hlt]
      have hnext := valFrom_take (l := s.data.toList) (k := k) (by omega)
      obtain ⟨hV0, hV1⟩ := valFrom_bounds hd k (by omega)
      rw [← HV.out] at hV0 hV1 hnext
      rw [hgd] at hcell
      obtain ⟨c, hc⟩ : ∃ c, s.data.toList[k].toNat = c := ⟨_, rfl⟩
      rw [hc] at hcell hcd hnext
      have k1 : decide ((k : Int) < (s.size : Int)) = true := decide_eq_true (by omega)
      have k2 : ((k : Int) < (s.size : Int)) = True := eq_true (by omega)
      have k3 : (0 : Int) ≤ (k : Int) := by omega
      have hk1 : k + 1 ≤ s.size := by omega
      have hm : s.size - ((k : Int) + 1).toNat < s.size - (k : Int).toNat := by omega
      have hk9 : k < 9 := by omega
      obtain ⟨N, hN, hN2⟩ : ∃ N, wrap64 (V * 10 + ((c : Int) - 48) % 256) = N ∧ N = V * 10 + ((c : Int) - 48) := by
        obtain ⟨e1, e2, e4, e5⟩ := num_facts hV0 (pow_bound hV1 hk9) hcd hk9
        exact ⟨_, rfl, by rw [e2, e4]⟩
      have e1 := (num_facts hV0 (pow_bound hV1 hk9) hcd hk9).1
      have e5 := (num_facts hV0 (pow_bound hV1 hk9) hcd hk9).2.2.2
      rw [← hN2] at hnext
      have HN : Hid (valFrom (s.data.toList.take (k + 1)) 0 = N) := hnext
      have HC : Hid (48 ≤ c ∧ c ≤ 57) := hcd
      clear hnext hcd hc hgd hV0 hV1 hc2 HV hN2
      go_wp2
      go_roundw
      case rel => exact ⟨k + 1, _, hk1, by simp, rfl, (by show _ = _; rw [hN]; exact HN.out.symm), by first | rfl | trivial⟩
      case measure =>
        exact hm
    · have hke : k = s.size := by omega
      have hfin : V = valFrom s.data.toList 0 := by
        rw [HV.out, hke, List.take_of_length_le (by omega)]
      have k1 : decide ((k : Int) < (s.size : Int)) = false := decide_eq_false (by omega)
      have k2 : ((k : Int) < (s.size : Int)) = False := eq_false (by omega)
      clear HV hke
      go_wp2
      go_ret
      exact ⟨by rw [← hfin]; rfl, hb2⟩

end Cut
end Go.Proofs.YtfddpaljmihinaaGreatDoor
