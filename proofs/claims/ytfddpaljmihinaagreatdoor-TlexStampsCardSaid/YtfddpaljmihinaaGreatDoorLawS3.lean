/-
  The plain law of TlexStamps, its third part: plain values and numbers at days and times. (Conditions: none beyond what each theorem asks.)
-/
import Derived.Test.YtfddpaljmihinaaGreatDoorLawS2
import Derived.KernelRfl
namespace Go.Proofs.YtfddpaljmihinaaGreatDoor.PStamps
open Go.RowKit Go.Proofs.YtfddpaljmihinaaGreatDoorW.PrintWords Go.Proofs.YtfddpaljmihinaaGreatDoorW.PrintLast Go.Proofs.YtfddpaljmihinaaGreatDoorW.PrintMore Go.Proofs.YtfddpaljmihinaaGreatDoor.Cut
set_option linter.unusedVariables false
set_option linter.unusedSimpArgs false

/-! ### What is cut off a day's text -/
def setL : List UInt8 := [48, 49, 50, 51, 52, 53, 54, 55, 56, 57, 95]

theorem set_eq : (ByteArray.mk #[48, 49, 50, 51, 52, 53, 54, 55, 56, 57]) ++ (ByteArray.mk #[95]) = ofL setL := by
  rw [mk_ofL, mk_ofL, ofL_append]
  rfl

theorem inSet_digits : ((List.range 10).all fun d => inSet (ofL setL) (48 + d)) = true := by kernel_rfl

theorem inSet_dig (d : Fin 10) : inSet (ofL setL) (D d).toNat = true := by
  rw [D_toNat]
  exact List.all_eq_true.1 inSet_digits d.val (List.mem_range.2 d.isLt)

theorem inSet_45 : inSet (ofL setL) 45 = false := by kernel_rfl

theorem D_lt (d : Fin 10) : (D d).toNat < 128 := by have := d.isLt; rw [D_toNat]; omega

theorem cutFrom_dig (l : List UInt8) (f p : Nat) (d : Fin 10) (h : p < l.length) (hd : l[p]'h = D d) : cutFrom (ofL l) (ofL setL) (f + 1) p = cutFrom (ofL l) (ofL setL) f (p + 1) := by
  have hp : p < (ofL l).size := h
  have hg : ((ofL l)[p]'hp) = D d := hd
  have hdec : Utf8.decode (ofL l) p = ((D d).toNat, 1) := by
    rw [Go.decode_ascii (ofL l) p hp (by rw [hg]; exact D_lt d), hg]
  simp only [cutFrom]
  rw [if_pos hp, hdec, if_pos (inSet_dig d)]

theorem cutFrom_minus (l : List UInt8) (f p : Nat) (h : p < l.length) (hd : l[p]'h = 45) : cutFrom (ofL l) (ofL setL) (f + 1) p = (ofL l).extract p (ofL l).size := by
  have hp : p < (ofL l).size := h
  have hg : ((ofL l)[p]'hp) = 45 := hd
  have hdec : Utf8.decode (ofL l) p = (45, 1) := by
    rw [Go.decode_ascii (ofL l) p hp (by rw [hg]; decide), hg]
    rfl
  simp only [cutFrom]
  rw [if_pos hp, hdec, if_neg (by rw [inSet_45]; simp)]

theorem cutREnd_dig (l : List UInt8) (n : Nat) (d : Fin 10) (h : n < l.length) (hd : l[n]'h = D d) : cutREnd (ofL l) (ofL setL) (n + 1) = cutREnd (ofL l) (ofL setL) n := by
  have hp : n < (ofL l).size := h
  have hg : ((ofL l)[n]'hp) = D d := hd
  simp only [cutREnd]
  rw [dif_pos hp, hg, if_pos (inSet_dig d)]

theorem cutREnd_minus (l : List UInt8) (n : Nat) (h : n < l.length) (hd : l[n]'h = 45) : cutREnd (ofL l) (ofL setL) (n + 1) = (ofL l).extract 0 (n + 1) := by
  have hp : n < (ofL l).size := h
  have hg : ((ofL l)[n]'hp) = 45 := hd
  simp only [cutREnd]
  rw [dif_pos hp, hg, if_neg (by rw [show (45 : UInt8).toNat = 45 from rfl, inSet_45]; simp)]

theorem cutL_day (a b c d e f g h : Fin 10) : cutL (ofL [D a, D b, D c, D d, 45, D e, D f, 45, D g, D h]) (ofL setL) = ofL [45, D e, D f, 45, D g, D h] := by
  have hs : (ofL [D a, D b, D c, D d, 45, D e, D f, 45, D g, D h]).size = 9 + 1 := rfl
  unfold cutL
  rw [hs, cutFrom_dig _ 9 0 a (by simp) rfl, show (9 : Nat) = 8 + 1 from rfl, cutFrom_dig _ 8 (0 + 1) b (by simp) rfl, show (8 : Nat) = 7 + 1 from rfl, cutFrom_dig _ 7 (0 + 1 + 1) c (by simp) rfl, show (7 : Nat) = 6 + 1 from rfl,
    cutFrom_dig _ 6 (0 + 1 + 1 + 1) d (by simp) rfl, show (6 : Nat) = 5 + 1 from rfl, cutFrom_minus _ 5 (0 + 1 + 1 + 1 + 1) (by simp) rfl, ofL_extract]
  rfl

theorem cutR_day (e f g h : Fin 10) : cutR (ofL [45, D e, D f, 45, D g, D h]) (ofL setL) = ofL [45, D e, D f, 45] := by
  have hs : (ofL [45, D e, D f, 45, D g, D h]).size = 5 + 1 := rfl
  unfold cutR
  rw [hs, cutREnd_dig _ 5 h (by simp) rfl, show (5 : Nat) = 4 + 1 from rfl, cutREnd_dig _ 4 g (by simp) rfl, show (4 : Nat) = 3 + 1 from rfl, cutREnd_minus _ 3 (by simp) rfl, ofL_extract]
  rfl

theorem whole_day (y m d : Nat) : tlex_whole.f (ofL (dayL y m d)) = some (ByteArray.mk #[], false) := by
  have hcl : tlex_cutLeft.f (ofL (dayL y m d)) (ofL setL) = some (ofL [45, D (dg (m / 10)), D (dg m), 45, D (dg (d / 10)), D (dg d)]) := by
    show some (cutL _ _) = _
    rw [dayL_eq, cutL_day]
  have hcr : tlex_cutRight.f (ofL [45, D (dg (m / 10)), D (dg m), 45, D (dg (d / 10)), D (dg d)]) (ofL setL) = some (ofL [45, D (dg (m / 10)), D (dg m), 45]) := by
    unfold tlex_cutRight.f
    rw [cutR_day, if_pos]
    refine ⟨?_, by show 6 < 140737488351232; omega⟩
    unfold allAscii
    rw [ofL_data]
    simp only [List.all_cons, List.all_nil, D_lt, decide_true, Bool.and_true]
    decide
  have hgr : tlex_grouped.f (ofL (dayL y m d)) (ByteArray.mk #[48, 49, 50, 51, 52, 53, 54, 55, 56, 57]) = some (ByteArray.mk #[], false) := by
    unfold tlex_grouped.f
    rw [ofL_toList, if_neg (by rw [dayL_eq]; simp), if_pos (by show 10 + 1 ≤ 9223372036854775807; omega), set_eq, hcl, Option.bind_some, hcr, Option.bind_some, ofL_toList, if_neg (by simp)]
  unfold tlex_whole.f
  rw [hgr, Option.bind_some, if_neg (by simp)]

theorem notPrefix (y m d : Nat) (c : UInt8) (hc : c.toNat < 48) : strings_HasPrefix.f (ofL (dayL y m d)) (ByteArray.mk #[c]) = some false := by
  rw [prefix_f, mk_ofL, ofL_extract, ofL_toList, ofL_toList]
  have h : ((if (ofL [c]).size ≤ (ofL (dayL y m d)).size then (((dayL y m d).drop 0).take ((ofL [c]).size - 0) == [c]) else false) : Bool) = false := by
    split
    · rw [dayL_eq]
      show ([D (dg (y / 100 / 10))] == [c]) = false
      rw [Bool.eq_false_iff]
      intro e
      rw [beq_iff_eq] at e
      have e2 := congrArg UInt8.toNat (List.cons.inj e).1
      rw [D_toNat] at e2
      omega
    · rfl
  rw [h]

theorem plainB_D (d : Fin 10) : plainB (D d) = true := by
  unfold plainB
  rw [D_dig]
  rfl

theorem plain_day (y m d : Nat) : (ofL (dayL y m d)).data.toList.all plainB = true := by
  rw [ofL_data, dayL_eq]
  simp only [List.all_cons, List.all_nil, plainB_D, Bool.and_true, Bool.true_and]
  decide

theorem number_j3 (k y m d : Nat) : tlex_Number.j3 (k + 1) (ofL (dayL y m d)) (ofL (dayL y m d)) (ByteArray.mk #[]) false = some (0, 0, ByteArray.mk #[], [], [], 4) := by
  have htp : strings_TrimPrefix.f (ByteArray.mk #[]) (ByteArray.mk #[43]) = some (ByteArray.mk #[]) := by
    unfold strings_TrimPrefix.f stringslite_TrimPrefix.f
    have : stringslite_HasPrefix.f (ByteArray.mk #[]) (ByteArray.mk #[43]) = some false := by
      unfold stringslite_HasPrefix.f
      rw [if_neg (by decide)]
    rw [this, Option.bind_some, if_neg (by simp)]
    rfl
  have hia : strings_IndexAny.f (ofL (dayL y m d)) (ByteArray.mk #[101, 69]) = some (-1) := by
    show indexAnyTab _ _ = _
    unfold indexAnyTab
    rw [if_pos ⟨rfl, plain_day y m d, rfl⟩]
  have hct : strings_Cut.f (ofL (dayL y m d)) (ByteArray.mk #[46]) = some (ofL (dayL y m d), ByteArray.mk #[], false) := by
    show cutTab _ _ = _
    unfold cutTab
    rw [if_pos ⟨rfl, plain_day y m d, rfl⟩]
  have hfl : tlex_float.f k (ByteArray.mk #[]) (ofL (dayL y m d)) = some (ByteArray.mk #[], false) := by
    unfold tlex_float.f
    rw [hia, Option.bind_some, if_pos rfl, hct, Option.bind_some, if_pos rfl, whole_day, Option.bind_some, if_neg (by simp)]
  rw [tlex_Number.j3, if_neg (by simp), whole_day, Option.bind_some, if_neg (by simp), htp, Option.bind_some, hfl, Option.bind_some, if_neg (by simp)]

theorem number_day (k y m d : Nat) : tlex_Number.f (k + 4) (ofL (dayL y m d)) = some (0, 0, ByteArray.mk #[], [], [], 4) := by
  unfold tlex_Number.f
  rw [notPrefix y m d 43 (by decide), Option.bind_some, if_neg (by simp), notPrefix y m d 45 (by decide), Option.bind_some, tlex_Number.j0, if_neg (by simp), tlex_Number.j1, ofL_toList, if_neg (by rw [dayL_eq]; simp)]
  have e : (dayL y m d == [110, 97, 110]) = false := by
    rw [Bool.eq_false_iff]
    intro c
    rw [beq_iff_eq, dayL_eq] at c
    simp at c
  rw [e, tlex_Number.j2, if_neg (by simp), if_pos (by rw [mk_ofL, ofL_toList]), if_pos (by show (10 : Int) > 2; omega), if_pos (by show (0 : Int) < 10; omega)]
  have hj := number_j3 k y m d
  split
  · have hx : (ofL (dayL y m d)).extract 1 2 = ofL [D (dg (y / 100))] := by rw [ofL_extract, dayL_eq]; rfl
    have hcn : strings_Contains.f (ByteArray.mk #[120, 111, 98]) (ofL [D (dg (y / 100))]) = some false := by
      show containsTab _ _ = _
      unfold containsTab
      rw [if_neg, if_pos ⟨rfl, rfl, by rw [ofL_data]; simp [D_dig]⟩]
      rintro ⟨h1, _⟩
      exact absurd h1 (by show ¬ [120, 111, 98] = ([84, 116, 32] : List UInt8); decide)
    rw [if_pos (by omega), if_pos (by show (2 : Int) ≤ 10; omega), hx, hcn, Option.bind_some, hj]
  · rw [hj]

/-! ### Stamps in a text -/
def textL (y m d h n s : Nat) : List UInt8 := dayL y m d ++ ([32] ++ (clkL h n s ++ [32, 35, 32, 120]))

/-- Which stamp stands there. -/
def gotL (y m d h n s : Nat) : List UInt8 := if dayOk y m d = true then (if clkOk h n s = true then dayL y m d ++ [32] ++ clkL h n s else dayL y m d) else []

theorem row_text (k y m d h n s : Nat) (hk : 10 < k) : tlex_row.f k (ofL (textL y m d h n s)) = some (ofL (dayL y m d)) :=
  row_eq (dayL y m d) _ (rowB_day y m d) rfl (by rw [dayL_eq]; simp) k (by rw [dayL_eq]; exact hk)

theorem stamped_eq (k y m d h n s : Nat) (hy : y ≤ 9999) (hm : m ≤ 99) (hd : d ≤ 99) (hh : h ≤ 99) (hn : n ≤ 99) (hs : s ≤ 99) : tlex_stamped.f (k + 20) (ofL (textL y m d h n s)) = some (ofL (gotL y m d h n s)) := by
  have hday := day_eq (k + 18) y m d hy hm hd
  have hst := fun q => stamp_day q y m d hy hm hd
  have hsz : (ofL (textL y m d h n s)).size = 23 := rfl
  have hx10 : (ofL (textL y m d h n s)).extract 10 23 = ofL ([32] ++ (clkL h n s ++ [32, 35, 32, 120])) := by
    rw [ofL_extract]
    unfold textL
    rw [dayL_eq]
    rfl
  have hx11 : (ofL (textL y m d h n s)).extract 11 23 = ofL (clkL h n s ++ [32, 35, 32, 120]) := by
    rw [ofL_extract]
    unfold textL
    rw [dayL_eq]
    rfl
  have hpf : strings_HasPrefix.f (ofL ([32] ++ (clkL h n s ++ [32, 35, 32, 120]))) (ByteArray.mk #[32]) = some true := by
    rw [prefix_f, mk_ofL, ofL_extract, ofL_toList, ofL_toList]
    rfl
  have hrow : tlex_row.f (k + 19) (ofL (clkL h n s ++ [32, 35, 32, 120])) = some (ofL (clkL h n s)) :=
    row_eq (clkL h n s) [32, 35, 32, 120] (rowB_clk h n s) rfl (by rw [clkL_eq]; simp) (k + 19) (by rw [clkL_eq]; show 8 < k + 19; omega)
  have hj : ofL (dayL y m d) ++ (ByteArray.mk #[32]) = ofL (dayL y m d ++ [32]) := by rw [mk_ofL, ofL_append]
  have hboth := stamp_both (k + 15) y m d h n s 32 [] true hy hm hd hh hn hs (.inr rfl) (by simp) (zone_none _)
  rw [List.append_nil, Bool.and_true] at hboth
  unfold tlex_stamped.f
  rw [row_text _ _ _ _ _ _ _ (by omega), Option.bind_some, if_pos (by rfl), hday, Option.bind_some]
  cases hok : dayOk y m d with
  | true =>
    rw [if_pos rfl, hsz, if_pos (by omega), hx10, hpf, Option.bind_some, tlex_stamped.j0, if_pos rfl, if_pos (by show 10 + 1 ≤ 9223372036854775807; omega), hsz, if_pos (by omega), hx11, hrow, Option.bind_some, hj, ofL_append,
      if_pos (by show 11 + 8 ≤ 9223372036854775807; omega), hboth, hok, Option.bind_some, Bool.true_and]
    cases hck : clkOk h n s with
    | true =>
      rw [if_pos rfl]
      unfold gotL
      rw [if_pos hok, if_pos hck]
    | false =>
      rw [if_neg (by simp), hst (k + 17), Option.bind_some, if_pos hok]
      unfold gotL
      rw [if_pos hok, if_neg (by rw [hck]; simp)]
  | false =>
    rw [if_neg (by simp), tlex_stamped.j0, if_neg (by simp), hst (k + 17), Option.bind_some, if_neg (by rw [hok]; simp)]
    unfold gotL
    rw [if_neg (by rw [hok]; simp)]
    rfl

/-- A plain value at a day and a time, and a remark. -/
theorem plain_eq (k y m d h n s : Nat) (hy : y ≤ 9999) (hm : m ≤ 99) (hd : d ≤ 99) (hh : h ≤ 99) (hn : n ≤ 99) (hs : s ≤ 99) :
    ∃ v, tlex_Plain.f (k + 22) (ofL (textL y m d h n s)) 0 = some v ∧ (dayOk y m d = true → clkOk h n s = true → v = (7, 0, ofL (dayL y m d ++ [32] ++ clkL h n s), [], [], 19, 0, 0)) := by
  have hsz : (ofL (textL y m d h n s)).size = 23 := rfl
  have hd0 := (dg (y / 100 / 10)).isLt
  have b0 : bt (ofL (textL y m d h n s)) 0 = ((48 + (dg (y / 100 / 10)).val : Nat) : Int) := by
    rw [ofL_bt]
    unfold textL
    rw [dayL_eq, ← D_toNat]
    rfl
  have hex : (ofL (textL y m d h n s)).extract (Int.toNat 0) 23 = ofL (textL y m d h n s) := by
    rw [ofL_extract]
    rfl
  have e39 : (((48 + (dg (y / 100 / 10)).val : Nat) : Int) == 39) = false := by
    rw [Bool.eq_false_iff]
    intro c
    rw [beq_iff_eq] at c
    omega
  unfold tlex_Plain.f
  rw [if_neg (by omega), hsz, decide_eq_false (by omega), tlex_Plain.j0, if_neg (by simp), if_pos (by omega), hsz, if_pos (by omega), b0, if_neg (by omega), e39, tlex_Plain.j1, if_neg (by simp), if_pos (by omega), hsz, if_pos (by omega), hex,
    stamped_eq k y m d h n s hy hm hd hh hn hs, Option.bind_some, ofL_toList]
  by_cases hok : dayOk y m d = true
  · have hne : ¬ gotL y m d h n s = [] := by
      unfold gotL
      rw [if_pos hok]
      split
      · rw [dayL_eq]; simp
      · rw [dayL_eq]; simp
    rw [if_neg hne]
    refine ⟨_, rfl, fun _ hck => ?_⟩
    have hg : gotL y m d h n s = dayL y m d ++ [32] ++ clkL h n s := by
      unfold gotL
      rw [if_pos hok, if_pos hck]
    rw [hg]
    have hw : wrap64 (0 + ((ofL (dayL y m d ++ [32] ++ clkL h n s)).size : Int)) = 19 := by
      show wrap64 (0 + 19) = 19
      exact Ev.wrap64_small (by omega) (by omega)
    rw [hw]
  · have hg : gotL y m d h n s = [] := by
      unfold gotL
      rw [if_neg hok]
    have hr : tlex_row.f (k + 20) (ofL (textL y m d h n s)) = some (ofL (dayL y m d)) := row_text _ _ _ _ _ _ _ (by omega)
    rw [if_pos hg, hr, Option.bind_some, ofL_toList, if_neg (by rw [dayL_eq]; simp), if_neg (by rw [dayL_eq]; simp), number_day (k + 16), Option.bind_some, if_neg (by simp)]
    exact ⟨_, rfl, fun c => absurd c hok⟩

end Go.Proofs.YtfddpaljmihinaaGreatDoor.PStamps
