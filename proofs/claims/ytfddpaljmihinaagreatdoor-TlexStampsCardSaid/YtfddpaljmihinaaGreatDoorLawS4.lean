/-
  The plain law of TlexStamps, its last part: the law's own function answers true. (Conditions: none beyond what each theorem asks.)
-/
import Derived.Test.YtfddpaljmihinaaGreatDoorLawS3
import Derived.Test.YtfddpaljmihinaaGreatDoorPStampsx9
namespace Go.Proofs.YtfddpaljmihinaaGreatDoor.PStamps
open Go.RowKit Go.Proofs.YtfddpaljmihinaaGreatDoorW.PrintWords Go.Proofs.YtfddpaljmihinaaGreatDoorW.PrintLast Go.Proofs.YtfddpaljmihinaaGreatDoorW.PrintMore Go.Proofs.YtfddpaljmihinaaGreatDoor.Cut
set_option linter.unusedVariables false
set_option linter.unusedSimpArgs false

theorem sz2 (n : Nat) : (ofL (twoL n)).size = 2 := rfl

theorem szd (y m d : Nat) : (ofL (dayL y m d)).size = 10 := rfl

theorem szc (h n s : Nat) : (ofL (clkL h n s)).size = 8 := rfl

theorem day_cat (y m d : Nat) : (((((ofL (twoL (y / 100)) ++ ofL (twoL y)) ++ (⟨#[45]⟩ : ByteArray)) ++ ofL (twoL m)) ++ (⟨#[45]⟩ : ByteArray)) ++ ofL (twoL d)) = ofL (dayL y m d) := by
  rw [mk_ofL, ofL_append, ofL_append, ofL_append, ofL_append, ofL_append]
  rfl

theorem clk_cat (h n s : Nat) : ((((ofL (twoL h) ++ (⟨#[58]⟩ : ByteArray)) ++ ofL (twoL n)) ++ (⟨#[58]⟩ : ByteArray)) ++ ofL (twoL s)) = ofL (clkL h n s) := by
  rw [mk_ofL, ofL_append, ofL_append, ofL_append, ofL_append]
  rfl

theorem j5_eq (k y m d h n s : Nat) (hy : y ≤ 9999) (hm : m ≤ 99) (hd : d ≤ 99) (hh : h ≤ 99) (hn : n ≤ 99) (hs : s ≤ 99) :
    dragomanlaw10_TlexStamps.j5 (k + 23) (ofL (dayL y m d)) (ofL (clkL h n s)) (dayOk y m d) (clkOk h n s) false = some true := by
  obtain ⟨v, hv, hok⟩ := plain_eq k y m d h n s hy hm hd hh hn hs
  have hcat : (((ofL (dayL y m d) ++ (⟨#[32]⟩ : ByteArray)) ++ ofL (clkL h n s)) ++ (⟨#[32, 35, 32, 120]⟩ : ByteArray)) = ofL (textL y m d h n s) := by
    rw [mk_ofL, mk_ofL, ofL_append, ofL_append, ofL_append]
    unfold textL
    rw [List.append_assoc, List.append_assoc]
  rw [dragomanlaw10_TlexStamps.j5, if_neg (by simp), if_pos (by simp [ByteArray.size_append, szd, szc, sz32]), if_pos (by simp [ByteArray.size_append, szd, szc, sz32]), if_pos (by simp [ByteArray.size_append, szd, szc, sz32]), hcat, hv, Option.bind_some]
  cases hA : dayOk y m d with
  | false => rw [if_neg (by simp)]
  | true =>
    rw [if_pos rfl]
    cases hB : clkOk h n s with
    | false => rw [if_neg (by simp)]
    | true =>
      rw [if_pos rfl, hok hA hB, if_pos rfl, if_pos rfl, if_pos rfl]
      have e : (ofL (dayL y m d) ++ (⟨#[32]⟩ : ByteArray)) ++ ofL (clkL h n s) = ofL (dayL y m d ++ [32] ++ clkL h n s) := by rw [mk_ofL, ofL_append, ofL_append]
      rw [e]
      simp

theorem j4_eq (k y m d h n s o : Nat) (hy : y ≤ 9999) (hm : m ≤ 99) (hd : d ≤ 99) (hh : h ≤ 99) (hn : n ≤ 99) (hs : s ≤ 99) (ho : o ≤ 99) :
    dragomanlaw10_TlexStamps.j4 (k + 24) (o : Int) (ofL (dayL y m d)) (ofL (clkL h n s)) (dayOk y m d) (clkOk h n s) = some true := by
  have h5 := j5_eq k y m d h n s hy hm hd hh hn hs
  have s1 := stamp_day (k + 21) y m d hy hm hd
  have s2 := stamp_clock (k + 21) h n s hh hn hs
  have s3 := stamp_both (k + 19) y m d h n s 84 [90] true hy hm hd hh hn hs (.inl rfl) (by simp) (zone_Z _)
  have s4 := stamp_dot5 (k + 21) h n s hh hn hs
  have s5 := stamp_both (k + 19) y m d h n s 32 (zoneL o) (decide (o ≤ 23)) hy hm hd hh hn hs (.inr rfl) (by rw [zoneL_eq]; simp) (zone_plus (k + 19) o ho)
  have c3 : (((ofL (dayL y m d) ++ (⟨#[84]⟩ : ByteArray)) ++ ofL (clkL h n s)) ++ (⟨#[90]⟩ : ByteArray)) = ofL (dayL y m d ++ [84] ++ clkL h n s ++ [90]) := by
    rw [mk_ofL, mk_ofL, ofL_append, ofL_append, ofL_append]
  have c4 : (ofL (clkL h n s) ++ (⟨#[46, 53]⟩ : ByteArray)) = ofL (clkL h n s ++ [46, 53]) := by rw [mk_ofL, ofL_append]
  have c5 : (((((ofL (dayL y m d) ++ (⟨#[32]⟩ : ByteArray)) ++ ofL (clkL h n s)) ++ (⟨#[43]⟩ : ByteArray)) ++ ofL (twoL o)) ++ (⟨#[58, 51, 48]⟩ : ByteArray)) = ofL (dayL y m d ++ [32] ++ clkL h n s ++ zoneL o) := by
    rw [mk_ofL, mk_ofL, mk_ofL, ofL_append, ofL_append, ofL_append, ofL_append, ofL_append]
    unfold zoneL
    rw [List.append_assoc, List.append_assoc, List.append_assoc, List.append_assoc, List.append_assoc]
    congr 1
  have ht := two_eq o (by omega)
  have hdec : decide ((o : Int) < 24) = decide (o ≤ 23) := by rw [decide_eq_decide]; omega
  rw [dragomanlaw10_TlexStamps.j4, s1, Option.bind_some, if_neg (by simp), s2, Option.bind_some, if_neg (by simp), if_pos (by simp [ByteArray.size_append, szd, szc, sz84]), if_pos (by simp [ByteArray.size_append, szd, szc, sz84]),
    if_pos (by simp [ByteArray.size_append, szd, szc, sz84]), c3, s3, Option.bind_some]
  cases hA : dayOk y m d with
  | true =>
    rw [hA] at h5 s5
    cases hB : clkOk h n s with
    | true =>
      rw [hB] at h5 s4 s5
      rw [if_pos rfl, if_neg (by simp), if_pos (by simp [szc]), c4, s4, Option.bind_some, if_neg (by simp), if_pos (by simp [ByteArray.size_append, szd, szc, sz32]), if_pos (by simp [ByteArray.size_append, szd, szc, sz32]), ht, Option.bind_some,
        if_pos (by simp [ByteArray.size_append, szd, szc, sz32, sz43, sz2]), if_pos (by simp [ByteArray.size_append, szd, szc, sz32, sz43, sz2]), c5, s5, Option.bind_some, if_pos rfl, hdec]
      have e : ((true && (true && decide (o ≤ 23))) != decide (o ≤ 23)) = false := by simp
      rw [e]
      exact h5
    | false =>
      rw [hB] at h5 s4 s5
      rw [if_pos rfl, if_neg (by simp), if_pos (by simp [szc]), c4, s4, Option.bind_some, if_neg (by simp), if_pos (by simp [ByteArray.size_append, szd, szc, sz32]), if_pos (by simp [ByteArray.size_append, szd, szc, sz32]), ht, Option.bind_some,
        if_pos (by simp [ByteArray.size_append, szd, szc, sz32, sz43, sz2]), if_pos (by simp [ByteArray.size_append, szd, szc, sz32, sz43, sz2]), c5, s5, Option.bind_some, if_neg (by simp)]
      exact h5
  | false =>
    rw [hA] at h5 s5
    cases hB : clkOk h n s with
    | true =>
      rw [hB] at h5 s4 s5
      rw [if_neg (by simp), if_neg (by simp), if_pos (by simp [szc]), c4, s4, Option.bind_some, if_neg (by simp), if_pos (by simp [ByteArray.size_append, szd, szc, sz32]), if_pos (by simp [ByteArray.size_append, szd, szc, sz32]), ht, Option.bind_some,
        if_pos (by simp [ByteArray.size_append, szd, szc, sz32, sz43, sz2]), if_pos (by simp [ByteArray.size_append, szd, szc, sz32, sz43, sz2]), c5, s5, Option.bind_some]
      exact h5
    | false =>
      rw [hB] at h5 s4 s5
      rw [if_neg (by simp), if_neg (by simp), if_pos (by simp [szc]), c4, s4, Option.bind_some, if_neg (by simp), if_pos (by simp [ByteArray.size_append, szd, szc, sz32]), if_pos (by simp [ByteArray.size_append, szd, szc, sz32]), ht, Option.bind_some,
        if_pos (by simp [ByteArray.size_append, szd, szc, sz32, sz43, sz2]), if_pos (by simp [ByteArray.size_append, szd, szc, sz32, sz43, sz2]), c5, s5, Option.bind_some]
      exact h5

theorem j3_eq (k y m d h n s o : Nat) (hy : y ≤ 9999) (hm : m ≤ 99) (hd : d ≤ 99) (hh : h ≤ 99) (hn : n ≤ 99) (hs : s ≤ 99) (ho : o ≤ 99) :
    dragomanlaw10_TlexStamps.j3 (k + 25) (h : Int) (n : Int) (s : Int) (o : Int) (ofL (dayL y m d)) (ofL (clkL h n s)) (dayOk y m d) = some true := by
  have h4 := j4_eq k y m d h n s o hy hm hd hh hn hs ho
  rw [dragomanlaw10_TlexStamps.j3]
  by_cases c1 : h ≤ 23
  · rw [if_pos (by omega)]
    by_cases c2 : n ≤ 59
    · rw [if_pos (by omega)]
      have e : decide ((s : Int) < 61) = clkOk h n s := by unfold clkOk; rw [decide_eq_decide]; omega
      rw [e]
      exact h4
    · rw [if_neg (by omega)]
      have e : clkOk h n s = false := by unfold clkOk; rw [decide_eq_false_iff_not]; omega
      rw [e] at h4
      exact h4
  · rw [if_neg (by omega)]
    have e : clkOk h n s = false := by unfold clkOk; rw [decide_eq_false_iff_not]; omega
    rw [e] at h4
    exact h4

theorem j2_eq (k y m d h n s o : Nat) (hy : y ≤ 9999) (hm : m ≤ 99) (hd : d ≤ 99) (hh : h ≤ 99) (hn : n ≤ 99) (hs : s ≤ 99) (ho : o ≤ 99) :
    dragomanlaw10_TlexStamps.j2 (k + 26) (d : Int) (h : Int) (n : Int) (s : Int) (o : Int) (ofL (dayL y m d)) (ofL (clkL h n s)) ((daysN y m : Nat) : Int) = some true := by
  have h3 := j3_eq k y m d h n s o hy hm hd hh hn hs ho
  rw [dragomanlaw10_TlexStamps.j2]
  by_cases c1 : 1 ≤ d
  · rw [if_pos (by omega)]
    have e : decide ((d : Int) ≤ ((daysN y m : Nat) : Int)) = dayOk y m d := by unfold dayOk; rw [decide_eq_decide]; omega
    rw [e]
    exact h3
  · rw [if_neg (by omega)]
    have e : dayOk y m d = false := by unfold dayOk; rw [decide_eq_false_iff_not]; omega
    rw [e] at h3
    exact h3

theorem j0_true (k : Nat) (a0 a1 a2 a3 a4 a5 a6 : Int) : dragomanlaw10_TlexStamps.j0 (k + 1) a0 a1 a2 a3 a4 a5 a6 true = some true := by
  rw [dragomanlaw10_TlexStamps.j0, if_pos rfl]

theorem table_at (y m : Nat) (hm : m ≤ 13) (h2 : m ≠ 2) : rd [0, 31, 28, 31, 30, 31, 30, 31, 31, 30, 31, 30, 31, 0] (m : Int) = ((daysN y m : Nat) : Int) := by
  have : m = 0 ∨ m = 1 ∨ m = 3 ∨ m = 4 ∨ m = 5 ∨ m = 6 ∨ m = 7 ∨ m = 8 ∨ m = 9 ∨ m = 10 ∨ m = 11 ∨ m = 12 ∨ m = 13 := by omega
  rcases this with rfl | rfl | rfl | rfl | rfl | rfl | rfl | rfl | rfl | rfl | rfl | rfl | rfl <;> rfl

theorem j0_eq (k y m d h n s o : Nat) (hy : y ≤ 9999) (hm : m ≤ 13) (hd : d ≤ 99) (hh : h ≤ 99) (hn : n ≤ 99) (hs : s ≤ 99) (ho : o ≤ 99) :
    dragomanlaw10_TlexStamps.j0 (k + 28) (y : Int) (m : Int) (d : Int) (h : Int) (n : Int) (s : Int) (o : Int) false = some true := by
  have h2 := j2_eq k y m d h n s o hy (by omega) hd hh hn hs ho
  have e100 : wrap64 (Int.tdiv (y : Int) 100) = ((y / 100 : Nat) : Int) := by
    rw [Int.tdiv_eq_ediv_of_nonneg (by omega), Ev.wrap64_small (by omega) (by omega)]
    omega
  have e : ∀ q : Nat, 0 < q → Int.tmod (y : Int) (q : Int) = ((y % q : Nat) : Int) := by
    intro q hq
    rw [Int.tmod_eq_emod_of_nonneg (by omega)]
    omega
  have e4 : Int.tmod (y : Int) 4 = ((y % 4 : Nat) : Int) := e 4 (by omega)
  have e1 : Int.tmod (y : Int) 100 = ((y % 100 : Nat) : Int) := e 100 (by omega)
  have e5 : Int.tmod (y : Int) 400 = ((y % 400 : Nat) : Int) := e 400 (by omega)
  have b400 : ((((y % 400 : Nat) : Int)) == 0) = (y % 400 == 0) := by
    rw [Bool.eq_iff_iff, beq_iff_eq, beq_iff_eq]
    omega
  have j1t : ∀ q, dragomanlaw10_TlexStamps.j1 (k + 27) (d : Int) (h : Int) (n : Int) (s : Int) (o : Int) (ofL (dayL y m d)) (ofL (clkL h n s)) q true = dragomanlaw10_TlexStamps.j2 (k + 26) (d : Int) (h : Int) (n : Int) (s : Int) (o : Int) (ofL (dayL y m d)) (ofL (clkL h n s)) 29 := by
    intro q
    rw [dragomanlaw10_TlexStamps.j1, if_pos rfl]
  have j1f : ∀ q, dragomanlaw10_TlexStamps.j1 (k + 27) (d : Int) (h : Int) (n : Int) (s : Int) (o : Int) (ofL (dayL y m d)) (ofL (clkL h n s)) q false = dragomanlaw10_TlexStamps.j2 (k + 26) (d : Int) (h : Int) (n : Int) (s : Int) (o : Int) (ofL (dayL y m d)) (ofL (clkL h n s)) q := by
    intro q
    rw [dragomanlaw10_TlexStamps.j1, if_neg (by simp)]
  rw [dragomanlaw10_TlexStamps.j0, if_neg (by simp), e100, two_eq (y / 100) (by omega), Option.bind_some, two_eq y hy, Option.bind_some, if_pos (by simp [ByteArray.size_append, sz2, sz45]), if_pos (by simp [ByteArray.size_append, sz2, sz45]),
    two_eq m (by omega), Option.bind_some, if_pos (by simp [ByteArray.size_append, sz2, sz45]), if_pos (by simp [ByteArray.size_append, sz2, sz45]), two_eq d (by omega), Option.bind_some, if_pos (by simp [ByteArray.size_append, sz2, sz45]),
    two_eq h (by omega), Option.bind_some, if_pos (by simp [ByteArray.size_append, sz2, sz58]), two_eq n (by omega), Option.bind_some, if_pos (by simp [ByteArray.size_append, sz2, sz58]), if_pos (by simp [ByteArray.size_append, sz2, sz58]),
    two_eq s (by omega), Option.bind_some, if_pos (by simp [ByteArray.size_append, sz2, sz58]), Option.bind_some, if_pos (by omega), if_pos (by show (m : Int) < 14; omega), day_cat, clk_cat, e4, e1, e5, b400]
  by_cases hm2 : m = 2
  · have hdays : daysN y m = if leapN y = true then 29 else 28 := by unfold daysN; rw [if_pos hm2]
    have hrd : rd [0, 31, 28, 31, 30, 31, 30, 31, 31, 30, 31, 30, 31, 0] (m : Int) = 28 := by rw [hm2]; rfl
    have fin : ∀ b : Bool, b = leapN y → dragomanlaw10_TlexStamps.j1 (k + 27) (d : Int) (h : Int) (n : Int) (s : Int) (o : Int) (ofL (dayL y m d)) (ofL (clkL h n s)) 28 b = some true := by
      intro b hb
      cases b with
      | true =>
        rw [j1t]
        rw [hdays, ← hb, if_pos rfl] at h2
        exact h2
      | false =>
        rw [j1f]
        rw [hdays, ← hb, if_neg (by simp)] at h2
        exact h2
    rw [if_pos (by omega), hrd]
    by_cases h4 : y % 4 = 0
    · rw [if_pos (by omega)]
      by_cases h1 : y % 100 = 0
      · rw [if_pos (by omega)]
        exact fin _ (by unfold leapN; simp [h4, h1])
      · rw [if_neg (by omega)]
        exact fin _ (by unfold leapN; simp [h4, h1])
    · rw [if_neg (by omega)]
      exact fin _ (by unfold leapN; simp [h4])
  · rw [if_neg (by omega), table_at y m hm hm2, j1f]
    exact h2

theorem law_true : dragomanlaw10_TlexStamps.Pure := by
  intro a0 a1 a2 a3 a4 a5 a6 _ _ _ _ _ _ _
  refine ⟨28, ?_⟩
  unfold dragomanlaw10_TlexStamps.f
  rw [show dragomanlaw10_awake.f = some true from rfl, Option.bind_some, if_pos rfl]
  have jt := j0_true 27 a0 a1 a2 a3 a4 a5 a6
  by_cases c0 : a0 < 0
  · rw [if_pos c0]; exact jt
  rw [if_neg c0]
  by_cases c1 : a0 > 9999
  · rw [if_pos c1]; exact jt
  rw [if_neg c1]
  by_cases c2 : a1 < 0
  · rw [if_pos c2]; exact jt
  rw [if_neg c2]
  by_cases c3 : a1 > 13
  · rw [if_pos c3]; exact jt
  rw [if_neg c3]
  by_cases c4 : a2 < 0
  · rw [if_pos c4]; exact jt
  rw [if_neg c4]
  by_cases c5 : a2 > 32
  · rw [if_pos c5]; exact jt
  rw [if_neg c5]
  by_cases c6 : a3 < 0
  · rw [if_pos c6]; exact jt
  rw [if_neg c6]
  by_cases c7 : a3 > 25
  · rw [if_pos c7]; exact jt
  rw [if_neg c7]
  by_cases c8 : a4 < 0
  · rw [if_pos c8]; exact jt
  rw [if_neg c8]
  by_cases c9 : a4 > 61
  · rw [if_pos c9]; exact jt
  rw [if_neg c9]
  by_cases c10 : a5 < 0
  · rw [if_pos c10]; exact jt
  rw [if_neg c10]
  by_cases c11 : a5 > 62
  · rw [if_pos c11]; exact jt
  rw [if_neg c11]
  by_cases c12 : a6 < 0
  · rw [if_pos c12]; exact jt
  rw [if_neg c12]
  by_cases c13 : a6 > 25
  · rw [decide_eq_true c13]; exact jt
  rw [decide_eq_false c13]
  obtain ⟨y, rfl⟩ := Int.eq_ofNat_of_zero_le (Int.not_lt.1 c0)
  obtain ⟨m, rfl⟩ := Int.eq_ofNat_of_zero_le (Int.not_lt.1 c2)
  obtain ⟨d, rfl⟩ := Int.eq_ofNat_of_zero_le (Int.not_lt.1 c4)
  obtain ⟨h, rfl⟩ := Int.eq_ofNat_of_zero_le (Int.not_lt.1 c6)
  obtain ⟨n, rfl⟩ := Int.eq_ofNat_of_zero_le (Int.not_lt.1 c8)
  obtain ⟨s, rfl⟩ := Int.eq_ofNat_of_zero_le (Int.not_lt.1 c10)
  obtain ⟨o, rfl⟩ := Int.eq_ofNat_of_zero_le (Int.not_lt.1 c12)
  clear jt
  exact j0_eq 0 y m d h n s o (by omega) (by omega) (by omega) (by omega) (by omega) (by omega) (by omega)

end Go.Proofs.YtfddpaljmihinaaGreatDoor.PStamps
