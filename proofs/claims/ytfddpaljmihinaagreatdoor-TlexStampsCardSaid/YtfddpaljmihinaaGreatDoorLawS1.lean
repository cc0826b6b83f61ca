/-
  The plain law of TlexStamps, its first part: what the lexer's functions come to at days and times. (Conditions: none beyond what each theorem asks.)
-/
import Derived.Test.YtfddpaljmihinaaGreatDoorPStampsx8
namespace Go.Proofs.YtfddpaljmihinaaGreatDoor.PStamps
open Go.RowKit Go.Proofs.YtfddpaljmihinaaGreatDoorW.PrintWords Go.Proofs.YtfddpaljmihinaaGreatDoorW.PrintLast Go.Proofs.YtfddpaljmihinaaGreatDoorW.PrintMore Go.Proofs.YtfddpaljmihinaaGreatDoor.Cut
set_option linter.unusedVariables false
set_option linter.unusedSimpArgs false

/-! ### Bytes as lists -/
def ofL (l : List UInt8) : ByteArray := ⟨⟨l⟩⟩

theorem mk_ofL (l : List UInt8) : (ByteArray.mk l.toArray) = ofL l := rfl

theorem ofL_size (l : List UInt8) : (ofL l).size = l.length := rfl

theorem ofL_data (l : List UInt8) : (ofL l).data.toList = l := rfl

theorem ofL_toList (l : List UInt8) : (ofL l).toList = l := by rw [ByteArray.toList_eq]; rfl

theorem ofL_append (l m : List UInt8) : ofL l ++ ofL m = ofL (l ++ m) := by
  apply ByteArray.ext
  apply Array.toList_inj.1
  rw [ByteArray.data_append, Array.toList_append]
  rfl

theorem ofL_extract (l : List UInt8) (i j : Nat) : (ofL l).extract i j = ofL ((l.drop i).take (j - i)) := by
  apply ByteArray.ext
  apply Array.toList_inj.1
  rw [ByteArray.data_extract, Array.toList_extract, List.extract_eq_take_drop]
  rfl

theorem ofL_bt (l : List UInt8) (i : Int) : bt (ofL l) i = ((l.getD i.toNat 0).toNat : Int) := by
  unfold bt
  split
  · rename_i h
    have h' : i.toNat < l.length := h
    rw [List.getD_eq_getElem?_getD, List.getElem?_eq_getElem h']
    rfl
  · rename_i h
    have h' : l.length ≤ i.toNat := Nat.le_of_not_lt h
    rw [List.getD_eq_getElem?_getD, List.getElem?_eq_none h']
    rfl

/-! ### Digits -/
def D (d : Fin 10) : UInt8 := UInt8.ofNat (48 + d.val)

theorem D_toNat (d : Fin 10) : (D d).toNat = 48 + d.val := by
  have := d.isLt
  show (48 + d.val) % 256 = _
  omega

def dg (n : Nat) : Fin 10 := ⟨n % 10, Nat.mod_lt _ (by omega)⟩

theorem dg_val (n : Nat) : (dg n).val = n % 10 := rfl

theorem D_dig (d : Fin 10) : isDig (D d) = true := by
  have := d.isLt
  simp only [isDig, D_toNat, Bool.and_eq_true, decide_eq_true_eq]
  omega

theorem num2 (a b : Fin 10) : digitsVal (ofL [D a, D b]) = some ((10 * a.val + b.val : Nat) : Int) := by
  have h : digitsVal (ofL [D a, D b]) = some (valFrom [D a, D b] 0) := by
    unfold digitsVal
    rw [if_pos]
    · rfl
    · refine ⟨by show 0 < 2; omega, by show 2 ≤ 9; omega, ?_⟩
      rw [ofL_data]
      simp [D_dig]
  rw [h]
  simp only [valFrom, D_toNat]
  congr 1
  omega

theorem num4 (a b c d : Fin 10) : digitsVal (ofL [D a, D b, D c, D d]) = some ((1000 * a.val + 100 * b.val + 10 * c.val + d.val : Nat) : Int) := by
  have h : digitsVal (ofL [D a, D b, D c, D d]) = some (valFrom [D a, D b, D c, D d] 0) := by
    unfold digitsVal
    rw [if_pos]
    · rfl
    · refine ⟨by show 0 < 4; omega, by show 4 ≤ 9; omega, ?_⟩
      rw [ofL_data]
      simp [D_dig]
  rw [h]
  simp only [valFrom, D_toNat]
  congr 1
  omega

/-- A number's two digits. -/
def twoL (n : Nat) : List UInt8 := [D (dg (n / 10)), D (dg n)]

theorem two_eq (n : Nat) (h : n ≤ 9999) : dragomanlaw10_two.f (n : Int) = some (ofL (twoL n)) := by
  have e1 : Int.tdiv (n : Int) 10 = ((n / 10 : Nat) : Int) := by
    rw [Int.tdiv_eq_ediv_of_nonneg (by omega)]
    omega
  have e2 : Int.tmod (n : Int) 10 = ((n % 10 : Nat) : Int) := by
    rw [Int.tmod_eq_emod_of_nonneg (by omega)]
    omega
  have e3 : wrap64 ((n / 10 : Nat) : Int) = ((n / 10 : Nat) : Int) := Ev.wrap64_small (by omega) (by omega)
  have e4 : Int.tmod ((n / 10 : Nat) : Int) 10 = ((n / 10 % 10 : Nat) : Int) := by
    rw [Int.tmod_eq_emod_of_nonneg (by omega)]
    omega
  have e5 : ∀ q : Nat, q < 10 → wrap64 (48 + (q : Int)) % 256 = ((48 + q : Nat) : Int) := by
    intro q hq
    rw [Ev.wrap64_small (by omega) (by omega)]
    omega
  unfold dragomanlaw10_two.f
  rw [e1, e3, e4, e2, e5 _ (Nat.mod_lt _ (by omega)), e5 _ (Nat.mod_lt _ (by omega))]
  rfl

/-! ### Days -/
theorem prefix_f (s p : ByteArray) : strings_HasPrefix.f s p = some (if p.size ≤ s.size then ((s.extract 0 p.size).toList == p.toList) else false) := by
  unfold strings_HasPrefix.f stringslite_HasPrefix.f
  by_cases h : p.size ≤ s.size
  · rw [if_pos (show (s.size : Int) ≥ (p.size : Int) by omega), if_pos (by omega), if_pos (by omega), if_pos h]
    simp
  · rw [if_neg (show ¬ (s.size : Int) ≥ (p.size : Int) by omega), if_neg h]
    rfl

/-- Whether a year has a leap day. -/
def leapN (y : Nat) : Bool := (y % 4 == 0 && y % 100 != 0) || y % 400 == 0

theorem leap_eq (y : Nat) : tlex_leap.f (y : Int) = some (leapN y) := by
  unfold tlex_leap.f leapN
  have e : ∀ q : Nat, 0 < q → Int.tmod (y : Int) (q : Int) = ((y % q : Nat) : Int) := by
    intro q hq
    rw [Int.tmod_eq_emod_of_nonneg (by omega)]
    omega
  have e4 : Int.tmod (y : Int) 4 = ((y % 4 : Nat) : Int) := e 4 (by omega)
  have e100 : Int.tmod (y : Int) 100 = ((y % 100 : Nat) : Int) := e 100 (by omega)
  have e400 : Int.tmod (y : Int) 400 = ((y % 400 : Nat) : Int) := e 400 (by omega)
  rw [e4, e100, e400]
  have b400 : ((((y % 400 : Nat) : Int)) == 0) = (y % 400 == 0) := by
    rw [Bool.eq_iff_iff, beq_iff_eq, beq_iff_eq]
    omega
  rw [b400]
  by_cases h4 : y % 4 = 0
  · rw [if_pos (by omega)]
    by_cases h1 : y % 100 = 0
    · rw [if_pos (by omega)]
      simp [h4, h1]
    · rw [if_neg (by omega)]
      simp [h4, h1]
  · rw [if_neg (by omega)]
    simp [h4]

/-- How many days a month has. -/
def daysN (y m : Nat) : Nat :=
  if m = 2 then (if leapN y = true then 29 else 28) else if m = 4 ∨ m = 6 ∨ m = 9 ∨ m = 11 then 30 else if m = 1 ∨ m = 3 ∨ m = 5 ∨ m = 7 ∨ m = 8 ∨ m = 10 ∨ m = 12 then 31 else 0

theorem days_eq (k y m : Nat) : tlex_days.f (k + 1) (y : Int) (m : Int) = some ((daysN y m : Nat) : Int) := by
  unfold tlex_days.f daysN
  rw [leap_eq]
  by_cases h2 : m = 2
  · subst h2
    simp only [Option.bind_some]
    cases leapN y <;> rfl
  · rw [if_neg (by omega), if_neg h2]
    simp only [tlex_days.j0]
    by_cases h4 : m = 4
    · subst h4; simp
    by_cases h6 : m = 6
    · subst h6; simp
    by_cases h9 : m = 9
    · subst h9; simp
    by_cases h11 : m = 11
    · subst h11; simp
    rw [if_neg (by omega), if_neg (by omega), if_neg (by omega)]
    have e : ((m : Int) == 11) = false := by rw [Bool.eq_false_iff]; intro c; rw [beq_iff_eq] at c; omega
    rw [e, if_neg (by simp), if_neg (by omega : ¬ (m = 4 ∨ m = 6 ∨ m = 9 ∨ m = 11))]
    by_cases h : m = 1 ∨ m = 3 ∨ m = 5 ∨ m = 7 ∨ m = 8 ∨ m = 10 ∨ m = 12
    · rw [if_pos h]
      rcases h with rfl | rfl | rfl | rfl | rfl | rfl | rfl <;> rfl
    · rw [if_neg h, if_neg (by omega), if_neg (by omega), if_neg (by omega), if_neg (by omega), if_neg (by omega), if_neg (by omega), if_neg (by omega)]
      rfl

/-- A day's text. -/
def dayL (y m d : Nat) : List UInt8 := twoL (y / 100) ++ twoL y ++ [45] ++ twoL m ++ [45] ++ twoL d

theorem dayL_eq (y m d : Nat) : dayL y m d = [D (dg (y / 100 / 10)), D (dg (y / 100)), D (dg (y / 10)), D (dg y), 45, D (dg (m / 10)), D (dg m), 45, D (dg (d / 10)), D (dg d)] := rfl

def dayOk (y m d : Nat) : Bool := decide (1 ≤ d ∧ d ≤ daysN y m)

theorem daysN_zero {y m : Nat} (h : m = 0 ∨ 13 ≤ m) : daysN y m = 0 := by
  unfold daysN
  rw [if_neg (by omega), if_neg (by omega), if_neg (by omega)]

theorem day_at (k : Nat) (y m d : Nat) (hy : y ≤ 9999) (hm : m ≤ 99) (hd : d ≤ 99) (x : Bool) (hx : x = false) : tlex_day.j0 (k + 2) (ofL (dayL y m d)) x = some (dayOk y m d) := by
  subst hx
  have ey : 1000 * (dg (y / 100 / 10)).val + 100 * (dg (y / 100)).val + 10 * (dg (y / 10)).val + (dg y).val = y := by simp only [dg_val]; omega
  have em : 10 * (dg (m / 10)).val + (dg m).val = m := by simp only [dg_val]; omega
  have ed : 10 * (dg (d / 10)).val + (dg d).val = d := by simp only [dg_val]; omega
  have n1 : tlex_number.f ((ofL (dayL y m d)).extract 0 4) = some (y : Int) := by
    rw [ofL_extract, dayL_eq]
    show digitsVal (ofL [D (dg (y / 100 / 10)), D (dg (y / 100)), D (dg (y / 10)), D (dg y)]) = _
    rw [num4, ey]
  have n2 : tlex_number.f ((ofL (dayL y m d)).extract 5 7) = some (m : Int) := by
    rw [ofL_extract, dayL_eq]
    show digitsVal (ofL [D (dg (m / 10)), D (dg m)]) = _
    rw [num2, em]
  have n3 : tlex_number.f ((ofL (dayL y m d)).extract 8 (ofL (dayL y m d)).size) = some (d : Int) := by
    rw [ofL_extract, dayL_eq]
    show digitsVal (ofL [D (dg (d / 10)), D (dg d)]) = _
    rw [num2, ed]
  have hs : ((ofL (dayL y m d)).size : Int) = 10 := rfl
  clear ey em ed
  rw [tlex_day.j0, if_neg (by simp), if_pos (by omega), if_pos (by rw [hs]; omega), n1, Option.bind_some, if_pos (by omega), if_pos (by rw [hs]; omega), n2, Option.bind_some, if_pos (by rw [hs]; omega), n3, Option.bind_some,
    if_pos (by omega)]
  clear n1 n2 n3 hs
  by_cases c1 : 1 ≤ m
  · rw [if_pos (by omega)]
    by_cases c2 : 1 ≤ d
    · rw [if_pos (by omega), days_eq, Option.bind_some]
      congr 1
      unfold dayOk
      rw [decide_eq_decide]
      omega
    · rw [if_neg (by omega)]
      congr 1
      symm
      unfold dayOk
      rw [decide_eq_false_iff_not]
      omega
  · have := daysN_zero (y := y) (m := m) (by omega)
    rw [if_neg (by omega)]
    congr 1
    symm
    unfold dayOk
    rw [decide_eq_false_iff_not]
    omega

theorem day_eq (k : Nat) (y m d : Nat) (hy : y ≤ 9999) (hm : m ≤ 99) (hd : d ≤ 99) : tlex_day.f (k + 2) (ofL (dayL y m d)) = some (dayOk y m d) := by
  unfold tlex_day.f
  have hs : ((ofL (dayL y m d)).size : Int) = 10 := rfl
  have b4 : bt (ofL (dayL y m d)) 4 = 45 := by rw [ofL_bt, dayL_eq]; rfl
  have b7 : bt (ofL (dayL y m d)) 7 = 45 := by rw [ofL_bt, dayL_eq]; rfl
  rw [hs, b4, b7, if_pos rfl, if_pos (by omega), if_pos rfl, if_pos (by omega)]
  exact day_at k y m d hy hm hd _ rfl

/-- What has not ten bytes, or no '-' at its fifth, is no day. -/
theorem day_no (k : Nat) (l : List UInt8) (h : l.length ≠ 10 ∨ (l.getD 4 0).toNat ≠ 45) : tlex_day.f (k + 1) (ofL l) = some false := by
  unfold tlex_day.f
  rw [ofL_size]
  by_cases h10 : l.length = 10
  · have h2 := h.resolve_left (fun c => c h10)
    rw [if_pos (by omega), if_pos (by omega), if_neg (by rw [ofL_bt]; show ¬ (((l.getD 4 0).toNat : Int) = 45); omega)]
    simp only [tlex_day.j0]
    rfl
  · rw [if_neg (by omega)]
    simp only [tlex_day.j0]
    rfl

/-! ### Times -/
def clkL (h n s : Nat) : List UInt8 := twoL h ++ [58] ++ twoL n ++ [58] ++ twoL s

theorem clkL_eq (h n s : Nat) : clkL h n s = [D (dg (h / 10)), D (dg h), 58, D (dg (n / 10)), D (dg n), 58, D (dg (s / 10)), D (dg s)] := rfl

def clkOk (h n s : Nat) : Bool := decide (h ≤ 23 ∧ n ≤ 59 ∧ s ≤ 60)

/-- What stands behind a time: how many bytes the time has with it. -/
theorem clock_at (k : Nat) (h n s : Nat) (r : List UInt8) (z : Int) (hh : h ≤ 99) (hn : n ≤ 99) (hs : s ≤ 99) (hz : tlex_clock.j1 (k + 1) (ofL (clkL h n s ++ r)) false = some z) :
    tlex_clock.f (k + 2) (ofL (clkL h n s ++ r)) = some (if clkOk h n s = true then z else 0) := by
  have eh : 10 * (dg (h / 10)).val + (dg h).val = h := by simp only [dg_val]; omega
  have en : 10 * (dg (n / 10)).val + (dg n).val = n := by simp only [dg_val]; omega
  have es : 10 * (dg (s / 10)).val + (dg s).val = s := by simp only [dg_val]; omega
  have n1 : tlex_number.f ((ofL (clkL h n s ++ r)).extract 0 2) = some (h : Int) := by
    rw [ofL_extract, clkL_eq]
    show digitsVal (ofL [D (dg (h / 10)), D (dg h)]) = _
    rw [num2, eh]
  have n2 : tlex_number.f ((ofL (clkL h n s ++ r)).extract 3 5) = some (n : Int) := by
    rw [ofL_extract, clkL_eq]
    show digitsVal (ofL [D (dg (n / 10)), D (dg n)]) = _
    rw [num2, en]
  have n3 : tlex_number.f ((ofL (clkL h n s ++ r)).extract 6 8) = some (s : Int) := by
    rw [ofL_extract, clkL_eq]
    show digitsVal (ofL [D (dg (s / 10)), D (dg s)]) = _
    rw [num2, es]
  clear eh en es
  have hsz : (ofL (clkL h n s ++ r)).size = 8 + r.length := by rw [ofL_size, List.length_append]; rfl
  have b2 : bt (ofL (clkL h n s ++ r)) 2 = 58 := by rw [ofL_bt, clkL_eq]; rfl
  have b5 : bt (ofL (clkL h n s ++ r)) 5 = 58 := by rw [ofL_bt, clkL_eq]; rfl
  have ht : tlex_clock.j1 (k + 1) (ofL (clkL h n s ++ r)) true = some 0 := by rw [tlex_clock.j1, if_pos rfl]
  unfold tlex_clock.f
  rw [hsz, b2, b5, if_neg (by omega), if_pos (by omega), if_pos rfl, if_pos (by omega)]
  have hne : ((58 : Int) != 58) = false := rfl
  rw [hne, tlex_clock.j0, if_neg (by simp), if_pos (by omega), if_pos (by rw [hsz]; omega), n1, Option.bind_some, if_pos (by omega), if_pos (by rw [hsz]; omega), n2, Option.bind_some, if_pos (by omega), if_pos (by rw [hsz]; omega), n3, Option.bind_some,
    if_neg (by omega)]
  by_cases c1 : h ≤ 23
  · rw [if_neg (by omega), if_neg (by omega)]
    by_cases c2 : n ≤ 59
    · rw [if_neg (by omega), if_neg (by omega)]
      by_cases c3 : s ≤ 60
      · rw [decide_eq_false (by omega), hz, if_pos (by unfold clkOk; rw [decide_eq_true_eq]; omega)]
      · rw [decide_eq_true (by omega), ht, if_neg (by unfold clkOk; rw [decide_eq_true_eq]; omega)]
    · rw [if_pos (by omega), ht, if_neg (by unfold clkOk; rw [decide_eq_true_eq]; omega)]
  · rw [if_pos (by omega), ht, if_neg (by unfold clkOk; rw [decide_eq_true_eq]; omega)]

/-- Nothing that begins with a dot behind a time. -/
theorem clock_plain (k : Nat) (h n s : Nat) (r : List UInt8) (hr : r.head? ≠ some 46) : tlex_clock.j1 (k + 1) (ofL (clkL h n s ++ r)) false = some 8 := by
  have hsz : (ofL (clkL h n s ++ r)).size = 8 + r.length := by rw [ofL_size, List.length_append]; rfl
  have he : (ofL (clkL h n s ++ r)).extract 8 (8 + r.length) = ofL r := by
    rw [ofL_extract]
    congr 1
    show ((clkL h n s ++ r).drop 8).take (8 + r.length - 8) = r
    rw [clkL_eq]
    show (r.take (8 + r.length - 8)) = r
    rw [Nat.add_sub_cancel_left, List.take_length]
  rw [tlex_clock.j1, if_neg (by simp), hsz, if_pos (by omega), he, prefix_f]
  have hp : (if (ByteArray.mk #[46]).size ≤ (ofL r).size then (((ofL r).extract 0 (ByteArray.mk #[46]).size).toList == (ByteArray.mk #[46]).toList) else false) = false := by
    split
    · rw [ofL_extract, ofL_toList, mk_ofL, ofL_toList]
      cases r with
      | nil => rfl
      | cons b t =>
        show ([b] == [46]) = false
        rw [Bool.eq_false_iff]
        intro c
        simp at c
        exact hr (by rw [c]; rfl)
    · rfl
  rw [hp, Option.bind_some, if_neg (by simp)]

theorem clock_dot5 (k : Nat) (h n s : Nat) : tlex_clock.j1 (k + 1) (ofL (clkL h n s ++ [46, 53])) false = some 10 := by
  have hsz : (ofL (clkL h n s ++ [46, 53])).size = 10 := rfl
  have he : (ofL (clkL h n s ++ [46, 53])).extract 8 10 = ofL [46, 53] := by rw [ofL_extract]; rfl
  have he9 : (ofL (clkL h n s ++ [46, 53])).extract 9 10 = ofL [53] := by rw [ofL_extract]; rfl
  have hp : strings_HasPrefix.f (ofL [46, 53]) (ByteArray.mk #[46]) = some true := by
    rw [prefix_f, mk_ofL, ofL_extract, ofL_toList, ofL_toList]
    rfl
  have ht : strings_TrimLeft.f (ofL [53]) (ByteArray.mk #[48, 49, 50, 51, 52, 53, 54, 55, 56, 57]) = some (ByteArray.mk #[]) := by
    show trimLeftTab _ _ = _
    unfold trimLeftTab
    rw [if_pos ⟨rfl, rfl⟩]
  rw [tlex_clock.j1, if_neg (by simp), hsz, if_pos (by omega), he, hp, Option.bind_some, if_pos rfl, if_pos (by omega), he9, ht, Option.bind_some]
  have hw : wrap64 (((ofL [53]).size : Int) - ((ByteArray.mk #[]).size : Int)) = 1 := by
    show wrap64 (1 - 0) = 1
    exact Ev.wrap64_small (by omega) (by omega)
  rw [hw, if_neg (by omega), if_neg (by omega), Ev.wrap64_small (by omega) (by omega)]
  rfl

end Go.Proofs.YtfddpaljmihinaaGreatDoor.PStamps
