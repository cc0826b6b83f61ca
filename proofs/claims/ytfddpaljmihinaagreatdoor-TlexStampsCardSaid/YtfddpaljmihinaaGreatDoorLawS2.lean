/-
  The plain law of TlexStamps, its second part: stamps, rows, plain values. (Conditions: none beyond what each theorem asks.)
-/
import Derived.Test.YtfddpaljmihinaaGreatDoorLawS1
import Derived.KernelRfl
namespace Go.Proofs.YtfddpaljmihinaaGreatDoor.PStamps
open Go.RowKit Go.Proofs.YtfddpaljmihinaaGreatDoorW.PrintWords Go.Proofs.YtfddpaljmihinaaGreatDoorW.PrintLast Go.Proofs.YtfddpaljmihinaaGreatDoorW.PrintMore Go.Proofs.YtfddpaljmihinaaGreatDoor.Cut
set_option linter.unusedVariables false
set_option linter.unusedSimpArgs false

theorem clock_day (k : Nat) (y m d : Nat) (r : List UInt8) : tlex_clock.f (k + 1) (ofL (dayL y m d ++ r)) = some 0 := by
  have hsz : (ofL (dayL y m d ++ r)).size = 10 + r.length := by rw [ofL_size, List.length_append]; rfl
  have b2 : bt (ofL (dayL y m d ++ r)) 2 = ((48 + (dg (y / 10)).val : Nat) : Int) := by
    rw [ofL_bt, dayL_eq, ← D_toNat]
    rfl
  have hd := (dg (y / 10)).isLt
  unfold tlex_clock.f
  rw [hsz, b2, if_neg (by omega), if_pos (by omega), if_neg (by omega)]
  rw [tlex_clock.j0, if_pos rfl]

/-! ### Zones -/
theorem zone_none (k : Nat) : tlex_zone.f (k + 1) (ofL []) = some true := by
  unfold tlex_zone.f
  rw [if_pos (ofL_toList [])]
  rw [tlex_zone.j0, if_pos rfl]

theorem zone_Z (k : Nat) : tlex_zone.f (k + 1) (ofL [90]) = some true := by
  unfold tlex_zone.f
  rw [ofL_toList, if_neg (by simp), if_pos rfl]
  rw [tlex_zone.j0, if_pos rfl]

def zoneL (o : Nat) : List UInt8 := [43] ++ twoL o ++ [58, 51, 48]

theorem zoneL_eq (o : Nat) : zoneL o = [43, D (dg (o / 10)), D (dg o), 58, 51, 48] := rfl

theorem zone_plus (k o : Nat) (ho : o ≤ 99) : tlex_zone.f (k + 2) (ofL (zoneL o)) = some (decide (o ≤ 23)) := by
  have eo : 10 * (dg (o / 10)).val + (dg o).val = o := by simp only [dg_val]; omega
  have n1 : tlex_number.f ((ofL (zoneL o)).extract 1 3) = some (o : Int) := by
    rw [ofL_extract, zoneL_eq]
    show digitsVal (ofL [D (dg (o / 10)), D (dg o)]) = _
    rw [num2, eo]
  have n2 : tlex_number.f ((ofL (zoneL o)).extract 4 6) = some 30 := by
    rw [ofL_extract, zoneL_eq]
    show digitsVal (ofL [D 3, D 0]) = _
    rw [num2]
    rfl
  have hsz : (ofL (zoneL o)).size = 6 := rfl
  have b0 : bt (ofL (zoneL o)) 0 = 43 := by rw [ofL_bt, zoneL_eq]; rfl
  have b3 : bt (ofL (zoneL o)) 3 = 58 := by rw [ofL_bt, zoneL_eq]; rfl
  unfold tlex_zone.f
  rw [ofL_toList, if_neg (by rw [zoneL_eq]; simp), if_neg (by rw [zoneL_eq]; simp)]
  have hne : (zoneL o == [122]) = false := by rw [zoneL_eq]; rfl
  clear eo
  rw [hne, tlex_zone.j0, if_neg (by simp), if_pos (by rw [hsz]; rfl), if_pos (by rw [hsz]; decide), b0, if_pos rfl, if_pos (by rw [hsz]; decide), b3, tlex_zone.j1, if_neg (by decide), if_pos (by omega), if_pos (by rw [hsz]; decide), n1, Option.bind_some,
    if_pos (by rw [hsz]; decide), hsz, n2, Option.bind_some, if_pos (by omega)]
  by_cases c : o ≤ 23
  · rw [if_pos (by omega), if_pos (by omega), decide_eq_true c]
    rfl
  · rw [if_neg (by omega), decide_eq_false c]

/-! ### Stamps -/
theorem stamp_no (k : Nat) (s : ByteArray) : tlex_Stamp.j1 (k + 1) s true = some false := by rw [tlex_Stamp.j1, if_pos rfl]

theorem stamp_yes (k : Nat) (s : ByteArray) : tlex_Stamp.j0 (k + 1) s true = some true := by rw [tlex_Stamp.j0, if_pos rfl]

theorem stamp_short (k : Nat) (s : ByteArray) (h : s.size ≤ 10) : tlex_Stamp.j0 (k + 2) s false = some false := by
  rw [tlex_Stamp.j0, if_neg (by simp), if_pos (by omega)]
  exact stamp_no k s

theorem stamp_day (k : Nat) (y m d : Nat) (hy : y ≤ 9999) (hm : m ≤ 99) (hd : d ≤ 99) : tlex_Stamp.f (k + 2) (ofL (dayL y m d)) = some (dayOk y m d) := by
  unfold tlex_Stamp.f
  rw [day_eq k y m d hy hm hd, Option.bind_some]
  cases hok : dayOk y m d with
  | true => rw [if_pos rfl]; exact stamp_yes _ _
  | false =>
    have hc := clock_day (k + 1) y m d []
    rw [List.append_nil] at hc
    rw [if_neg (by simp), ofL_toList, if_neg (by rw [dayL_eq]; simp), hc]
    exact stamp_short k (ofL (dayL y m d)) (Nat.le_refl 10)

theorem stamp_clock (k : Nat) (h n s : Nat) (hh : h ≤ 99) (hn : n ≤ 99) (hs : s ≤ 99) : tlex_Stamp.f (k + 2) (ofL (clkL h n s)) = some (clkOk h n s) := by
  have hc := clock_at k h n s [] 8 hh hn hs (clock_plain k h n s [] (by simp))
  rw [List.append_nil] at hc
  unfold tlex_Stamp.f
  rw [day_no (k + 1) (clkL h n s) (.inl (by rw [clkL_eq]; simp))]
  rw [Option.bind_some, if_neg (by simp), ofL_toList, if_neg (by rw [clkL_eq]; simp), hc, Option.bind_some]
  cases hok : clkOk h n s with
  | true => exact stamp_yes _ _
  | false => exact stamp_short k _ (by show 8 ≤ 10; omega)

theorem stamp_dot5 (k : Nat) (h n s : Nat) (hh : h ≤ 99) (hn : n ≤ 99) (hs : s ≤ 99) : tlex_Stamp.f (k + 2) (ofL (clkL h n s ++ [46, 53])) = some (clkOk h n s) := by
  have hc := clock_at k h n s [46, 53] 10 hh hn hs (clock_dot5 k h n s)
  have hd4 := (dg n).isLt
  unfold tlex_Stamp.f
  rw [day_no (k + 1) (clkL h n s ++ [46, 53]) (.inr (by rw [clkL_eq]; show (D (dg n)).toNat ≠ 45; rw [D_toNat]; omega))]
  rw [Option.bind_some, if_neg (by simp), ofL_toList, if_neg (by rw [clkL_eq]; simp), hc, Option.bind_some]
  cases hok : clkOk h n s with
  | true => exact stamp_yes _ _
  | false => exact stamp_short k _ (by show 10 ≤ 10; omega)

/-- A day, a sign between, a time, and what stands behind it. -/
theorem stamp_both (k : Nat) (y m d h n s : Nat) (sep : UInt8) (r : List UInt8) (z : Bool) (hy : y ≤ 9999) (hm : m ≤ 99) (hd : d ≤ 99) (hh : h ≤ 99) (hn : n ≤ 99) (hs : s ≤ 99)
    (hsep : sep = 84 ∨ sep = 32) (hr : r.head? ≠ some 46) (hz : tlex_zone.f (k + 2) (ofL r) = some z) :
    tlex_Stamp.f (k + 4) (ofL (dayL y m d ++ [sep] ++ clkL h n s ++ r)) = some (dayOk y m d && (clkOk h n s && z)) := by
  have hl : (dayL y m d ++ [sep] ++ clkL h n s ++ r).length = 19 + r.length := by
    simp only [List.length_append]
    show 10 + 1 + 8 + r.length = _
    omega
  have hsz : (ofL (dayL y m d ++ [sep] ++ clkL h n s ++ r)).size = 19 + r.length := by rw [ofL_size, hl]
  have hcd := clock_day (k + 3) y m d ([sep] ++ clkL h n s ++ r)
  rw [← List.append_assoc, ← List.append_assoc] at hcd
  have hext : (ofL (dayL y m d ++ [sep] ++ clkL h n s ++ r)).extract 0 10 = ofL (dayL y m d) := by
    rw [ofL_extract, dayL_eq]
    rfl
  have hex2 : (ofL (dayL y m d ++ [sep] ++ clkL h n s ++ r)).extract 10 11 = ofL [sep] := by
    rw [ofL_extract, dayL_eq]
    rfl
  have hex3 : (ofL (dayL y m d ++ [sep] ++ clkL h n s ++ r)).extract 11 (19 + r.length) = ofL (clkL h n s ++ r) := by
    rw [ofL_extract, dayL_eq]
    show ofL ((clkL h n s ++ r).take (19 + r.length - 11)) = _
    rw [List.take_of_length_le]
    rw [List.length_append]
    show 8 + r.length ≤ _
    omega
  have hctn : strings_Contains.f (ByteArray.mk #[84, 116, 32]) (ofL [sep]) = some true := by
    show containsTab _ _ = _
    unfold containsTab
    rw [if_pos]
    refine ⟨rfl, ?_⟩
    rcases hsep with rfl | rfl
    · exact .inl rfl
    · exact .inr rfl
  have hc := clock_at k h n s r 8 hh hn hs (clock_plain k h n s r hr)
  have hsz2 : (ofL (clkL h n s ++ r)).size = 8 + r.length := by rw [ofL_size, List.length_append]; rfl
  have hex4 : (ofL (clkL h n s ++ r)).extract 8 (8 + r.length) = ofL r := by
    rw [ofL_extract, clkL_eq]
    show ofL (r.take (8 + r.length - 8)) = _
    rw [Nat.add_sub_cancel_left, List.take_length]
  unfold tlex_Stamp.f
  rw [day_no (k + 3) _ (.inl (by rw [hl]; omega))]
  rw [Option.bind_some, if_neg (by simp), ofL_toList, if_neg (by rw [dayL_eq]; simp), hcd, Option.bind_some, hsz]
  have e0 : ((0 : Int) == ((19 + r.length : Nat) : Int)) = false := by rw [Bool.eq_false_iff]; intro c; rw [beq_iff_eq] at c; omega
  rw [e0, tlex_Stamp.j0, if_neg (by simp), hsz, if_neg (by omega), if_pos (by omega), if_pos (by omega), hext, day_eq (k + 1) y m d hy hm hd, Option.bind_some]
  cases hok : dayOk y m d with
  | false => rw [if_neg (by simp)]; exact stamp_no _ _
  | true =>
    rw [if_pos rfl, if_pos (by omega), if_pos (by omega), hex2, hctn, Option.bind_some, tlex_Stamp.j1, if_neg (by decide), hsz, if_pos (by omega), hex3, hc, Option.bind_some]
    cases hck : clkOk h n s with
    | false => rfl
    | true =>
      rw [if_pos rfl, if_pos (by omega), if_pos (by omega), hsz2, if_pos (by omega)]
      show ((tlex_zone.f (k + 2) ((ofL (clkL h n s ++ r)).extract 8 (8 + r.length))).bind fun t164 => some t164) = _
      rw [hex4, hz]
      rfl

/-! ### Rows -/
theorem ib_at (c r : Int) (h : (if c = 45 then some (2 : Int) else if c = 58 then some 4 else if c = 32 then some (-1) else none) = some r) : strings_IndexByte.f (ByteArray.mk #[95, 43, 45, 46, 58]) c = some r := by
  show indexByteTab _ c = _
  unfold indexByteTab
  rw [if_pos rfl]
  exact h

theorem inRow_dig (c : Int) (h : 48 ≤ c ∧ c ≤ 57) : tlex_inRow.f c = some true := by
  unfold tlex_inRow.f
  rw [if_neg (by omega), if_neg (by omega), if_pos (by omega), if_pos (by omega)]

theorem inRow_45 : tlex_inRow.f 45 = some true := by
  unfold tlex_inRow.f
  rw [if_neg (by omega), if_neg (by omega), if_neg (by omega), ib_at 45 2 rfl]
  rfl

theorem inRow_58 : tlex_inRow.f 58 = some true := by
  unfold tlex_inRow.f
  rw [if_neg (by omega), if_neg (by omega), if_pos (by omega), if_neg (by omega), ib_at 58 4 rfl]
  rfl

theorem inRow_32 : tlex_inRow.f 32 = some false := by
  unfold tlex_inRow.f
  rw [if_neg (by omega), if_neg (by omega), if_neg (by omega), ib_at 32 (-1) rfl]
  rfl

/-- A byte of a row. -/
def rowB (b : UInt8) : Prop := tlex_inRow.f (b.toNat : Int) = some true

theorem rowB_D (d : Fin 10) : rowB (D d) := by
  have := d.isLt
  unfold rowB
  rw [D_toNat]
  exact inRow_dig _ (by omega)

theorem row_at (p q : List UInt8) (hp : ∀ b ∈ p, rowB b) (hq : q.head? = some 32) (hl : p.length ≤ 100) : ∀ (j i k : Nat), i + j = p.length → j < k → tlex_row.l0 k (ofL (p ++ q)) (i : Int) = some (ofL p) := by
  have hsz : (ofL (p ++ q)).size = p.length + q.length := by rw [ofL_size, List.length_append]
  have hq0 : 0 < q.length := by cases q with | nil => cases hq | cons a t => simp
  intro j
  induction j with
  | zero =>
    intro i k hi hk
    cases k with
    | zero => cases hk
    | succ k =>
      have hb : bt (ofL (p ++ q)) (i : Int) = 32 := by
        rw [ofL_bt]
        cases q with
        | nil => cases hq
        | cons a t =>
          cases hq
          rw [List.getD_eq_getElem?_getD, Int.toNat_natCast, List.getElem?_append_right (by omega), show i - p.length = 0 from by omega]
          rfl
      rw [tlex_row.l0, hsz, if_pos (by omega), if_pos (by omega), hb, inRow_32, Option.bind_some, if_neg (by simp), if_pos (by omega), ofL_extract]
      congr 2
      rw [Int.toNat_natCast, show i - 0 = p.length from by omega, List.drop_zero, List.take_left]
  | succ j ih =>
    intro i k hi hk
    cases k with
    | zero => cases hk
    | succ k =>
      have hil : i < p.length := by omega
      have hb : bt (ofL (p ++ q)) (i : Int) = ((p[i]'hil).toNat : Int) := by
        rw [ofL_bt, List.getD_eq_getElem?_getD, Int.toNat_natCast, List.getElem?_append_left hil, List.getElem?_eq_getElem hil]
        rfl
      have hr : tlex_inRow.f (((p[i]'hil).toNat : Nat) : Int) = some true := hp _ (List.getElem_mem hil)
      rw [tlex_row.l0, hsz, if_pos (by omega), if_pos (by omega), hb, hr, Option.bind_some, if_pos rfl, Ev.wrap64_small (by omega) (by omega)]
      exact ih (i + 1) k (by omega) (by omega)

theorem row_eq (p q : List UInt8) (hp : ∀ b ∈ p, rowB b) (hq : q.head? = some 32) (hl : p.length ≤ 100) (k : Nat) (hk : p.length < k) : tlex_row.f k (ofL (p ++ q)) = some (ofL p) :=
  row_at p q hp hq hl p.length 0 k (by omega) hk

theorem rowB_day (y m d : Nat) : ∀ b ∈ dayL y m d, rowB b := by
  intro b hb
  rw [dayL_eq] at hb
  simp only [List.mem_cons, List.not_mem_nil, or_false] at hb
  rcases hb with rfl | rfl | rfl | rfl | rfl | rfl | rfl | rfl | rfl | rfl <;> first | exact rowB_D _ | exact inRow_45

theorem rowB_clk (h n s : Nat) : ∀ b ∈ clkL h n s, rowB b := by
  intro b hb
  rw [clkL_eq] at hb
  simp only [List.mem_cons, List.not_mem_nil, or_false] at hb
  rcases hb with rfl | rfl | rfl | rfl | rfl | rfl | rfl | rfl <;> first | exact rowB_D _ | exact inRow_58

end Go.Proofs.YtfddpaljmihinaaGreatDoor.PStamps
