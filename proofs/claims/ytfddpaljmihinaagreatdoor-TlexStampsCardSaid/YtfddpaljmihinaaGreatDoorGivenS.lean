/-
  What the printed texts of TlexStamps take as given: contracts of our own. (Conditions: none, but awake's: the world is shaped and laid.)
-/
import Derived.Test.YtfddpaljmihinaaGreatDoorEvAny
import Derived.Test.YtfddpaljmihinaaGreatDoorEvCutDot
namespace Go.Proofs.YtfddpaljmihinaaGreatDoor
namespace Cut
open Go Go.RowKit

/-- What a row of at most nine digits says. -/
def digitsVal (s : ByteArray) : Option Int := if 0 < s.size ∧ s.size ≤ 9 ∧ s.data.toList.all isDig = true then some (valFrom s.data.toList 0) else none

/-- The cells of the set of digits. -/
def digitCells : Array Value := ((List.range 256).map fun i => Value.bool (Nat.ble 48 i && Nat.ble i 57)).toArray

theorem digitCells_size : digitCells.size = 256 := by simp [digitCells]

theorem digitCells_at {i : Nat} (h : i < 256) : digitCells[i]? = some (.bool (Nat.ble 48 i && Nat.ble i 57)) := by
  simp [digitCells, h]

theorem cells_of {v : Value} (h : Ev.VRel renNone (.agg setA) v) : v = .agg digitCells := by
  obtain ⟨cs, rfl, hl⟩ := h.agg_inv
  have hlen : cs.toList.length = 256 := by rw [hl.len]; simp [setA]
  congr 1
  apply Array.toList_inj.1
  apply List.ext_getElem?
  intro i
  rcases Nat.lt_or_ge i 256 with hi | hi
  · have h1 : setA[i]? = some (.bool (Nat.ble 48 i && Nat.ble i 57)) := by simp [setA, hi]
    have h2 : cs.toList[i]? = some cs.toList[i] := List.getElem?_eq_getElem (by omega)
    have h3 := (hl.at_ i _ _ h1 h2).bool_inv
    rw [h2, h3, Array.getElem?_toList, digitCells_at hi]
  · rw [List.getElem?_eq_none (by omega), List.getElem?_eq_none (by rw [Array.length_toList, digitCells_size]; omega)]

theorem mkset_calls (w : World) : Calls Tryz.prog 103 #[.string ⟨#[48, 49, 50, 51, 52, 53, 54, 55, 56, 57]⟩] w fun e w' => e = .returned (.tuple #[.agg digitCells, .bool true]) ∧ Below w.heap.size w w' := by
  refine (run_calls (fun _ => rfl) (soundN 1000 103) (enters_of Tryz.func103 (by kernel_rfl) rfl) (.cons (.str ⟨#[48, 49, 50, 51, 52, 53, 54, 55, 56, 57]⟩ _ rfl) (.nil _)) run_set w).mono fun e w' ⟨⟨v', e1, hv⟩, hb⟩ => ⟨?_, hb⟩
  obtain ⟨ts, rfl, ht⟩ := hv.tuple_inv
  obtain ⟨x, t1, h1, h2, h3⟩ := ht.cons_inv
  obtain ⟨y, t2, h4, h5, h6⟩ := h3.cons_inv
  rw [h6.nil_inv] at h4
  rw [e1]
  have : ts = #[.agg digitCells, .bool true] := Array.toList_inj.1 (by rw [h1, h4, cells_of h2, h5.bool_inv])
  rw [this]

theorem byte_digit {s : ByteArray} (hd : s.data.toList.all isDig = true) (i : Nat) (h : i < s.size) : digitCells[(s[i]'h).toNat]? = some (.bool true) := by
  have hb := List.all_eq_true.1 hd (s[i]'h) (Array.mem_toList_iff.2 (Array.getElem_mem h))
  simp only [isDig, Bool.and_eq_true, decide_eq_true_eq] at hb
  rw [digitCells_at (by omega), Nat.ble_eq_true_of_le hb.1, Nat.ble_eq_true_of_le hb.2]
  rfl

theorem number_calls (a0 : ByteArray) (r : Int) (w : World) (h : digitsVal a0 = some r) : Calls Tryz.prog 71 #[.string a0] w fun e w' => e = .returned (.int .i64 r) ∧ Below w.heap.size w w' := by
  unfold digitsVal at h
  split at h
  · rename_i hc
    cases h
    refine number_walk a0 w hc.1 hc.2.1 hc.2.2 fun w1 => ?_
    exact trim_walk a0 _ digitCells w1 hc.1 (by omega) (by decide) mkset_calls digitCells_size (fun v hv => by
      simp only [digitCells, List.toList_toArray, List.mem_map] at hv
      obtain ⟨i, _, rfl⟩ := hv
      rfl) (byte_digit hc.2.2)
  · cases h

def containsTab (a0 a1 : ByteArray) : Option Bool :=
  if a0.data.toList = [84, 116, 32] ∧ (a1.data.toList = [84] ∨ a1.data.toList = [32]) then some true
  else if a0.data.toList = [120, 111, 98] ∧ a1.size = 1 ∧ a1.data.toList.all isDig = true then some false
  else none

theorem contains_calls (a0 a1 : ByteArray) (r : Bool) (w : World) (h : containsTab a0 a1 = some r) : Calls Tryz.prog 32 #[.string a0, .string a1] w fun e w' => e = .returned (.bool r) ∧ Below w.heap.size w w' := by
  unfold containsTab at h
  split at h
  · rename_i hc
    cases h
    rcases hc.2 with h2 | h2
    · refine (run_calls (fun _ => rfl) (soundN 1000 32) (enters_of Tryz.func32 (by kernel_rfl) rfl) (.cons (.str a0 _ hc.1) (.cons (.str a1 _ h2) (.nil _))) run_T w).mono fun e w' ⟨⟨v', e1, hv⟩, hb⟩ => ⟨by rw [e1, hv.bool_inv], hb⟩
    · refine (run_calls (fun _ => rfl) (soundN 1000 32) (enters_of Tryz.func32 (by kernel_rfl) rfl) (.cons (.str a0 _ hc.1) (.cons (.str a1 _ h2) (.nil _))) run_sp w).mono fun e w' ⟨⟨v', e1, hv⟩, hb⟩ => ⟨by rw [e1, hv.bool_inv], hb⟩
  · split at h
    · rename_i hc
      cases h
      obtain ⟨b, hb0⟩ : ∃ b, a1.data.toList = [b] := by
        have hl : a1.data.toList.length = 1 := by rw [Array.length_toList]; exact hc.2.1
        exact List.length_eq_one_iff.1 hl
      have hd := hc.2.2
      rw [hb0] at hd
      simp only [List.all_cons, List.all_nil, Bool.and_true, isDig, Bool.and_eq_true, decide_eq_true_eq] at hd
      have hr := List.all_eq_true.1 run_xob (b.toNat - 48) (List.mem_range.2 (by omega))
      have hbb : UInt8.ofNat (48 + (b.toNat - 48)) = b := by rw [show 48 + (b.toNat - 48) = b.toNat by omega]; simp
      rw [hbb] at hr
      refine (run_calls (fun _ => rfl) (soundN 1000 32) (enters_of Tryz.func32 (by kernel_rfl) rfl) (.cons (.str a0 _ hc.1) (.cons (.str a1 _ hb0) (.nil _))) hr w).mono fun e w' ⟨⟨v', e1, hv⟩, hb⟩ => ⟨by rw [e1, hv.bool_inv], hb⟩
    · cases h

def decimalL : List UInt8 := [48, 49, 50, 51, 52, 53, 54, 55, 56, 57]

def trimLeftTab (a0 a1 : ByteArray) : Option ByteArray := if a0.data.toList = [53] ∧ a1.data.toList = decimalL then some ⟨#[]⟩ else none

theorem trimLeft_calls (a0 a1 : ByteArray) (r : ByteArray) (w : World) (h : trimLeftTab a0 a1 = some r) : Calls Tryz.prog 73 #[.string a0, .string a1] w fun e w' => e = .returned (.string r) ∧ Below w.heap.size w w' := by
  unfold trimLeftTab at h
  split at h
  · rename_i hc
    cases h
    refine (run_calls (fun _ => rfl) (soundN 1000 73) (enters_of Tryz.func73 (by kernel_rfl) rfl) (.cons (.str a0 _ hc.1) (.cons (.str a1 _ hc.2) (.nil _))) run_left w).mono fun e w' ⟨⟨v', e1, hv⟩, hb⟩ => ⟨?_, hb⟩
    obtain ⟨x, hx, hl⟩ := hv.str_inv
    rw [e1, hx]
    have : x = ⟨#[]⟩ := ByteArray.ext (Array.toList_inj.1 hl)
    rw [this]
  · cases h

def indexByteTab (a0 : ByteArray) (a1 : Int) : Option Int :=
  if a0.data.toList = [95, 43, 45, 46, 58] then (if a1 = 45 then some 2 else if a1 = 58 then some 4 else if a1 = 32 then some (-1) else none) else none

theorem indexByte_calls (a0 : ByteArray) (a1 : Int) (r : Int) (w : World) (h : indexByteTab a0 a1 = some r) : Calls Tryz.prog 120 #[.string a0, .int .u8 a1] w fun e w' => e = .returned (.int .i64 r) ∧ Below w.heap.size w w' := by
  unfold indexByteTab at h
  split at h
  · rename_i hc
    have hent := enters_of Tryz.func120 (by kernel_rfl) rfl
    split at h
    · rename_i h1
      subst h1
      cases h
      exact (run_calls (fun _ => rfl) (soundN 1000 120) hent (.cons (.str a0 _ hc) (.cons (.int .u8 45) (.nil _))) run_ib45 w).mono fun e w' ⟨⟨v', e1, hv⟩, hb⟩ => ⟨by rw [e1, hv.int_inv], hb⟩
    · split at h
      · rename_i h1
        subst h1
        cases h
        exact (run_calls (fun _ => rfl) (soundN 1000 120) hent (.cons (.str a0 _ hc) (.cons (.int .u8 58) (.nil _))) run_ib58 w).mono fun e w' ⟨⟨v', e1, hv⟩, hb⟩ => ⟨by rw [e1, hv.int_inv], hb⟩
      · split at h
        · rename_i h1
          subst h1
          cases h
          exact (run_calls (fun _ => rfl) (soundN 1000 120) hent (.cons (.str a0 _ hc) (.cons (.int .u8 32) (.nil _))) run_ib32 w).mono fun e w' ⟨⟨v', e1, hv⟩, hb⟩ => ⟨by rw [e1, hv.int_inv], hb⟩
        · cases h
  · cases h

def plainB (b : UInt8) : Bool := isDig b || b == 45

def indexAnyTab (a0 a1 : ByteArray) : Option Int := if a0.size = 10 ∧ a0.data.toList.all plainB = true ∧ a1.data.toList = [101, 69] then some (-1) else none

def eCells : Array Value := ((List.range 256).map fun i => Value.bool (Nat.beq i 69 || Nat.beq i 101)).toArray

theorem eCells_size : eCells.size = 256 := by simp [eCells]

theorem eCells_at {i : Nat} (h : i < 256) : eCells[i]? = some (.bool (Nat.beq i 69 || Nat.beq i 101)) := by
  simp [eCells, h]

theorem cellsE_of {v : Value} (h : Ev.VRel renNone (.agg setE) v) : v = .agg eCells := by
  obtain ⟨cs, rfl, hl⟩ := h.agg_inv
  have hlen : cs.toList.length = 256 := by rw [hl.len]; simp [setE]
  congr 1
  apply Array.toList_inj.1
  apply List.ext_getElem?
  intro i
  rcases Nat.lt_or_ge i 256 with hi | hi
  · have h1 : setE[i]? = some (.bool (Nat.beq i 69 || Nat.beq i 101)) := by simp [setE, hi]
    have h2 : cs.toList[i]? = some cs.toList[i] := List.getElem?_eq_getElem (by omega)
    have h3 := (hl.at_ i _ _ h1 h2).bool_inv
    rw [h2, h3, Array.getElem?_toList, eCells_at hi]
  · rw [List.getElem?_eq_none (by omega), List.getElem?_eq_none (by rw [Array.length_toList, eCells_size]; omega)]

theorem mksetE_calls (w : World) : Calls Tryz.prog 103 #[.string ⟨#[101, 69]⟩] w fun e w' => e = .returned (.tuple #[.agg eCells, .bool true]) ∧ Below w.heap.size w w' := by
  refine (run_calls (fun _ => rfl) (soundN 1000 103) (enters_of Tryz.func103 (by kernel_rfl) rfl) (.cons (.str ⟨#[101, 69]⟩ _ rfl) (.nil _)) run_setE w).mono fun e w' ⟨⟨v', e1, hv⟩, hb⟩ => ⟨?_, hb⟩
  obtain ⟨ts, rfl, ht⟩ := hv.tuple_inv
  obtain ⟨x, t1, h1, h2, h3⟩ := ht.cons_inv
  obtain ⟨y, t2, h4, h5, h6⟩ := h3.cons_inv
  rw [h6.nil_inv] at h4
  rw [e1]
  have : ts = #[.agg eCells, .bool true] := Array.toList_inj.1 (by rw [h1, h4, cellsE_of h2, h5.bool_inv])
  rw [this]

theorem plain_byte {l : List UInt8} (h : l.all plainB = true) {b : UInt8} (hb : b ∈ l) : b.toNat = 45 ∨ (48 ≤ b.toNat ∧ b.toNat ≤ 57) := by
  have h1 := List.all_eq_true.1 h b hb
  simp only [plainB, isDig, Bool.or_eq_true, Bool.and_eq_true, decide_eq_true_eq, beq_iff_eq] at h1
  rcases h1 with h1 | h1
  · exact .inr h1
  · subst h1; exact .inl rfl

theorem indexAny_calls (a0 a1 : ByteArray) (r : Int) (w : World) (h : indexAnyTab a0 a1 = some r) : Calls Tryz.prog 60 #[.string a0, .string a1] w fun e w' => e = .returned (.int .i64 r) ∧ Below w.heap.size w w' := by
  unfold indexAnyTab at h
  split at h
  · rename_i hc
    cases h
    have ha : a1 = ⟨#[101, 69]⟩ := ByteArray.ext (Array.toList_inj.1 hc.2.2)
    rw [ha]
    refine indexAny_none a0 _ eCells w hc.1 (by decide) mksetE_calls eCells_size (fun v hv => by
      simp only [eCells, List.toList_toArray, List.mem_map] at hv
      obtain ⟨i, _, rfl⟩ := hv
      rfl) fun i hi => ?_
    have hb := plain_byte hc.2.1 (b := a0[i]'hi) (Array.mem_toList_iff.2 (Array.getElem_mem hi))
    rw [eCells_at (by omega)]
    have h1 : Nat.beq (a0[i]'hi).toNat 69 = false := by
      cases hq : Nat.beq (a0[i]'hi).toNat 69 with
      | false => rfl
      | true => have := Nat.eq_of_beq_eq_true hq; omega
    have h2 : Nat.beq (a0[i]'hi).toNat 101 = false := by
      cases hq : Nat.beq (a0[i]'hi).toNat 101 with
      | false => rfl
      | true => have := Nat.eq_of_beq_eq_true hq; omega
    rw [h1, h2]
    rfl
  · cases h

def cutTab (a0 a1 : ByteArray) : Option (ByteArray × ByteArray × Bool) := if a0.size = 10 ∧ a0.data.toList.all plainB = true ∧ a1.data.toList = [46] then some (a0, ⟨#[]⟩, false) else none

theorem cut_calls (a0 a1 r1 r2 : ByteArray) (r3 : Bool) (w : World) (h : cutTab a0 a1 = some (r1, r2, r3)) : Calls Tryz.prog 61 #[.string a0, .string a1] w fun e w' => e = .returned (.tuple #[.string r1, .string r2, .bool r3]) ∧ Below w.heap.size w w' := by
  unfold cutTab at h
  split at h
  · rename_i hc
    cases h
    have ha : a1 = ⟨#[46]⟩ := ByteArray.ext (Array.toList_inj.1 hc.2.2)
    rw [ha]
    exact cut_none a0 hc.1 (fun b hb e => by
      have := plain_byte hc.2.1 hb
      rw [e] at this
      have h46 : (46 : UInt8).toNat = 46 := rfl
      omega) w
  · cases h

/-- A world that a law of this seat may begin in. -/
class GoodW (w : World) : Prop where
  out : ∃ z, Ev.GlobOk Ev.seat (Ev.startRen w) ∧ Ev.MemRel (Ev.startRen w) (Ev.beginMem z).next (Ev.beginMem z).get w

theorem awake_calls (w : World) [GoodW w] : Calls Tryz.prog 14 #[] w fun e w' => e = .returned (.bool true) ∧ Below w.heap.size w w' := by
  obtain ⟨z, hg, hm⟩ := GoodW.out (w := w)
  exact Ev.calls_true (Ev.sound 1000 14) Tryz.func14 (by kernel_rfl) (by kernel_rfl) hg hm (.nil _) Ev.start_ro (run_awake z)

end Cut
end Go.Proofs.YtfddpaljmihinaaGreatDoor
