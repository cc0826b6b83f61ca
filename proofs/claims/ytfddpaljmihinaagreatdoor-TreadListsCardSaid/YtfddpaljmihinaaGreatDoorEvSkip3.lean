/-
  utf.Valid and tlex.Skip by specifications. (Conditions: none beyond what each theorem asks.)
-/
import Derived.Test.YtfddpaljmihinaaGreatDoorPTreadTwicex4
import Derived.Test.YtfddpaljmihinaaGreatDoorEvD
import Derived.Test.YtfddpaljmihinaaGreatDoorEvQ
import Derived.Test.YtfddpaljmihinaaGreatDoorPTreadTwicex0
/-! ## EvValid -/
namespace Go.Proofs.YtfddpaljmihinaaGreatDoor
namespace Ev
open Go Go.RowKit Go.Proofs.YtfddpaljmihinaaGreatDoorW.PrintWords Go.Proofs.YtfddpaljmihinaaGreatDoorW.PrintLast Go.Proofs.YtfddpaljmihinaaGreatDoorW.PrintMore Go.Proofs.YtfddpaljmihinaaGreatDoor.PTreadTwice
noncomputable section

theorem wrap64_small {n : Int} (h0 : 0 ≤ n) (h1 : n < 4611686018427387904) : wrap64 n = n := by
  unfold wrap64
  omega

theorem bt_cons {a0 : ByteArray} {b : UInt8} {tl : List UInt8} (h : a0.data.toList = b :: tl) : bt a0 0 = (b.toNat : Int) := by
  have hs : 0 < a0.data.size := by
    rw [← Array.length_toList, h]
    exact Nat.succ_pos _
  have hb : a0.data[0]'hs = b := by
    have h1 : a0.data.toList[0]? = some b := by rw [h]; rfl
    rw [Array.getElem?_toList, Array.getElem?_eq_getElem hs] at h1
    exact Option.some.inj h1
  unfold bt
  have hs' : (0 : Int).toNat < a0.size := hs
  rw [dif_pos hs']
  show ((a0.data[0]'hs).toNat : Int) = _
  rw [hb]

theorem size_cons {a0 : ByteArray} {l : List UInt8} (h : a0.data.toList = l) : a0.size = l.length := by
  rw [← h]
  simp

theorem take_ascii (k : Nat) {a0 : ByteArray} {b : UInt8} {tl : List UInt8} (h : a0.data.toList = b :: tl) (hb : b.toNat < 128) : utf_Take.f (k + 2) a0 = some ((b.toNat : Int), 1) := by
  have hne : ¬ a0.toList = ([] : List UInt8) := by rw [ByteArray.toList_eq, h]; intro c; cases c
  have hsz := size_cons h
  have hs : (0 : Int) < (a0.size : Int) := by rw [hsz]; simp
  have hbt := bt_cons h
  have h128 : (b.toNat : Int) < 128 := by omega
  have hw : wrap64 (b.toNat : Int) = b.toNat := wrap64_small (by omega) (by omega)
  have hd : (decide ((1 : Int) > (a0.size : Int))) = false := by
    rw [decide_eq_false_iff_not]
    rw [hsz]
    simp
    omega
  unfold utf_Take.f
  rw [if_neg hne, if_pos hs, hbt]
  simp only [utf_begins.f, if_pos h128, hw, Option.bind_some]
  rw [if_neg (by decide : ¬ ((1 : Int) = 0)), hd]
  simp only [utf_Take.j0, utf_Take.l0]
  rw [if_neg (by decide : ¬ (false = true)), if_neg (by decide : ¬ ((1 : Int) < 1))]
  have g1 : (b.toNat : Int) ≥ 0 := by omega
  have g2 : (b.toNat : Int) ≤ 1114111 := by omega
  have g3 : (b.toNat : Int) < 55296 := by omega
  simp only [utf_Good.f, if_pos g1, if_pos g2, if_pos g3, Option.bind_some, if_true, utf_size.f, if_pos h128]

theorem extract_list (s : ByteArray) (a : Nat) : (s.extract a s.size).data.toList = s.data.toList.drop a := by
  rw [ByteArray.data_extract, Array.toList_extract, List.extract_eq_take_drop]
  rw [List.take_of_length_le]
  rw [List.length_drop, Array.length_toList]
  exact Nat.le_refl _

theorem valid_ascii {s : ByteArray} (hall : ∀ b ∈ s.data.toList, b.toNat < 128) (hsz : s.size < 1073741824) : ∀ (d a : Nat), a + d = s.size → utf_Valid.l0 (d + 3) s (a : Int) = some ((s.size : Int), true) := by
  intro d
  induction d with
  | zero =>
    intro a h
    have hn : ¬ (a : Int) < (s.size : Int) := by omega
    show utf_Valid.l0 (2 + 1) s (a : Int) = _
    rw [utf_Valid.l0, if_neg hn]
  | succ d ih =>
    intro a h
    have hl : s.size = s.data.toList.length := (Array.length_toList).symm
    have hlt : a < s.data.toList.length := by omega
    have hdrop : s.data.toList.drop a = s.data.toList[a] :: s.data.toList.drop (a + 1) := List.drop_eq_getElem_cons hlt
    have hb := hall _ (List.getElem_mem hlt)
    have ht := take_ascii (d + 1) ((extract_list s a).trans hdrop) hb
    have h1 : (a : Int) < (s.size : Int) := by omega
    have h2 : (0 : Int) ≤ (a : Int) := by omega
    have h3 : (a : Int) ≤ (s.size : Int) := by omega
    have h4 : wrap64 ((a : Int) + 1) = ((a + 1 : Nat) : Int) := by rw [wrap64_small (by omega) (by omega)]; rfl
    show utf_Valid.l0 ((d + 3) + 1) s (a : Int) = _
    rw [utf_Valid.l0, if_pos h1, if_pos h2, if_pos h3, Int.toNat_natCast, ht]
    rw [Option.bind_some, if_neg (by decide : ¬ ((1 : Int) = 0)), h4]
    exact ih (a + 1) (by omega)

def asciiB : List UInt8 → Bool
  | [] => true
  | b :: r => match Nat.blt b.toNat 128 with
    | true => asciiB r
    | false => false

theorem asciiB_spec : ∀ {l : List UInt8}, asciiB l = true → ∀ b ∈ l, b.toNat < 128 := by
  intro l
  induction l with
  | nil => intro _ b h; cases h
  | cons x r ih =>
    intro h b hb
    simp only [asciiB] at h
    split at h
    · rename_i hx
      rcases List.mem_cons.1 hb with c | c
      · subst c; exact Nat.le_of_ble_eq_true hx
      · exact ih h b c
    · cases h

def specValid (F : List AVal → AMem → Out AVal) (args : List AVal) (m : AMem) : Out AVal :=
  match args with
  | [.str s] => match asciiB s && Nat.blt (lenR s) 1073741824 with
    | true => .ok (.tuple [.int .i64 (.ofNat (lenR s)), .bool true]) m
    | false => F args m
  | _ => F args m

theorem specValid_ok {T : Tab} {F : List AVal → AMem → Out AVal} (hF : CallOk T Tryz.prog 80 F) (hent : ∀ args w, (callFunc 80 args).run Tryz.prog w = .ok (.enter 80 args) w) : CallOk T Tryz.prog 80 (specValid F) := by
  intro r w m args args' hg hm ha hgood
  unfold specValid at hgood ⊢
  simp only [lenR_eq] at hgood ⊢
  split at hgood
  · rename_i s
    split at hgood
    · rename_i hc
      rw [Bool.and_eq_true] at hc
      obtain ⟨x', t', e1, e2, e3⟩ := ha.cons_inv
      obtain ⟨b1, hb1, hd1⟩ := e2.str_inv
      rw [e3.nil_inv, hb1] at e1
      have : args' = #[.string b1] := Array.toList_inj.1 e1
      subst this
      have hlen : b1.size = s.length := size_cons hd1
      have hlt : s.length < 1073741824 := Nat.le_of_ble_eq_true hc.2
      have hv := valid_ascii (s := b1) (by rw [hd1]; exact asciiB_spec hc.1) (by omega) b1.size 0 (by omega)
      refine .inr ⟨hent _ _, (utf_Valid.calls (b1.size + 3) b1 _ _ w hv).mono fun en w' hp => ?_⟩
      obtain ⟨rfl, hdr⟩ := hp
      refine ⟨r, _, rfl, ?_, Step.below hm hdr.below⟩
      rw [hlen]
      exact .tupleOf (.cons (.int _ _) (.cons (.bool _) (.nil _)))
    · exact hF r w m _ args' hg hm ha hgood
  · exact hF r w m args args' hg hm ha hgood
end
end Ev
end Go.Proofs.YtfddpaljmihinaaGreatDoor

/-! ## EvSkipW -/
namespace Go.Proofs.YtfddpaljmihinaaGreatDoor.PTreadTwice
open Go.RowKit Go.Proofs.YtfddpaljmihinaaGreatDoorW.PrintWords Go.Proofs.YtfddpaljmihinaaGreatDoorW.PrintLast Go.Proofs.YtfddpaljmihinaaGreatDoorW.PrintMore
attribute [local go_sem] max2_int min2_int max_two min_two max_three min_three max_four min_four   -- for this text's walks alone

/-! ### tlex_Skip: function 30 -/
mutual
def tlex_Skip.l0 : Nat → ByteArray → Int → Bool → Option (Int)
  | 0, _, _, _ => none
  | k + 1, x0, x1, x2 => if x1 < (x0.size : Int) then (if 0 ≤ x1 then (if x1 ≤ (x0.size : Int) then ((tlex_lineEnd.f (x0.extract (x1 : Int).toNat x0.size)).bind fun t130 => (if 0 < ((x0.extract (x1 : Int).toNat x0.size).size : Int) then (if (bt (x0.extract (x1 : Int).toNat x0.size) 0) = 32 then (tlex_Skip.j1 k x0 x1 x2 (x0.extract (x1 : Int).toNat x0.size) t130 true) else (tlex_Skip.j1 k x0 x1 x2 (x0.extract (x1 : Int).toNat x0.size) t130 ((bt (x0.extract (x1 : Int).toNat x0.size) 0) == 9))) else (none))) else (none)) else (none)) else (some x1)
def tlex_Skip.j1 : Nat → ByteArray → Int → Bool → ByteArray → Int → Bool → Option (Int)
  | 0, _, _, _, _, _, _ => none
  | k + 1, x0, x1, x2, x7, x8, x22 => if x22 = true then (tlex_Skip.l0 k x0 (wrap64 (x1 + 1)) x2) else (if x2 = true then (tlex_Skip.j2 k x0 x1 x2 x7 x8 (decide (x8 > 0))) else (tlex_Skip.j2 k x0 x1 x2 x7 x8 false))
def tlex_Skip.j2 : Nat → ByteArray → Int → Bool → ByteArray → Int → Bool → Option (Int)
  | 0, _, _, _, _, _, _ => none
  | k + 1, x0, x1, x2, x7, x8, x33 => if x33 = true then (tlex_Skip.l0 k x0 (wrap64 (x1 + x8)) x2) else (if x2 = true then (if 0 < (x7.size : Int) then (if (bt x7 0) = 35 then ((tlex_remark.f k x7).bind fun t131 => (tlex_Skip.l0 k x0 (wrap64 (x1 + t131)) x2)) else (some x1)) else (none)) else (some x1))
end
def tlex_Skip.f (k : Nat) (a0 : ByteArray) (a1 : Int) (a2 : Bool) : Option (Int) := (tlex_clamp.f a0 a1).bind fun t129 => (tlex_Skip.l0 k a0 t129 a2)
theorem tlex_Skip.mono_l : ∀ k, (∀ y0 y1 y2, LeO (tlex_Skip.l0 k y0 y1 y2) (tlex_Skip.l0 (k + 1) y0 y1 y2)) ∧ (∀ y0 y1 y2 y3 y4 y5, LeO (tlex_Skip.j1 k y0 y1 y2 y3 y4 y5) (tlex_Skip.j1 (k + 1) y0 y1 y2 y3 y4 y5)) ∧ (∀ y0 y1 y2 y3 y4 y5, LeO (tlex_Skip.j2 k y0 y1 y2 y3 y4 y5) (tlex_Skip.j2 (k + 1) y0 y1 y2 y3 y4 y5))
  | 0 => ⟨fun _ _ _ r h => by simp [tlex_Skip.l0] at h, fun _ _ _ _ _ _ r h => by simp [tlex_Skip.j1] at h, fun _ _ _ _ _ _ r h => by simp [tlex_Skip.j2] at h⟩
  | k + 1 => by
    obtain ⟨ih0, ih1, ih2⟩ := tlex_Skip.mono_l k
    refine ⟨?_, ?_, ?_⟩
    · intro y0 y1 y2
      unfold tlex_Skip.l0
      repeat' first
      | (with_reducible exact ih0 _ _ _)
      | (with_reducible exact ih1 _ _ _ _ _ _)
      | (with_reducible exact ih2 _ _ _ _ _ _)
      | (with_reducible exact tlex_remark.mono _ _)
      | (with_reducible exact LeO.refl _)
      | (with_reducible exact LeO.none _)
      | (with_reducible refine LeO.ite ?_ ?_)
      | (with_reducible refine LeO.bind ?_ (fun _ => ?_))
      | exact ih0 _ _ _
      | exact ih1 _ _ _ _ _ _
      | exact ih2 _ _ _ _ _ _
      | exact tlex_remark.mono _ _
      | exact LeO.none _
      | refine LeO.ite ?_ ?_
      | refine LeO.bind ?_ (fun _ => ?_)
    · intro y0 y1 y2 y3 y4 y5
      unfold tlex_Skip.j1
      repeat' first
      | (with_reducible exact ih0 _ _ _)
      | (with_reducible exact ih1 _ _ _ _ _ _)
      | (with_reducible exact ih2 _ _ _ _ _ _)
      | (with_reducible exact tlex_remark.mono _ _)
      | (with_reducible exact LeO.refl _)
      | (with_reducible exact LeO.none _)
      | (with_reducible refine LeO.ite ?_ ?_)
      | (with_reducible refine LeO.bind ?_ (fun _ => ?_))
      | exact ih0 _ _ _
      | exact ih1 _ _ _ _ _ _
      | exact ih2 _ _ _ _ _ _
      | exact tlex_remark.mono _ _
      | exact LeO.none _
      | refine LeO.ite ?_ ?_
      | refine LeO.bind ?_ (fun _ => ?_)
    · intro y0 y1 y2 y3 y4 y5
      unfold tlex_Skip.j2
      repeat' first
      | (with_reducible exact ih0 _ _ _)
      | (with_reducible exact ih1 _ _ _ _ _ _)
      | (with_reducible exact ih2 _ _ _ _ _ _)
      | (with_reducible exact tlex_remark.mono _ _)
      | (with_reducible exact LeO.refl _)
      | (with_reducible exact LeO.none _)
      | (with_reducible refine LeO.ite ?_ ?_)
      | (with_reducible refine LeO.bind ?_ (fun _ => ?_))
      | exact ih0 _ _ _
      | exact ih1 _ _ _ _ _ _
      | exact ih2 _ _ _ _ _ _
      | exact tlex_remark.mono _ _
      | exact LeO.none _
      | refine LeO.ite ?_ ?_
      | refine LeO.bind ?_ (fun _ => ?_)
theorem tlex_Skip.mono : ∀ a0 a1 a2 k, LeO (tlex_Skip.f k a0 a1 a2) (tlex_Skip.f (k + 1) a0 a1 a2) := by
  intro a0 a1 a2 k
  obtain ⟨ih0, ih1, ih2⟩ := tlex_Skip.mono_l k
  unfold tlex_Skip.f
  repeat' first
      | (with_reducible exact ih0 _ _ _)
      | (with_reducible exact ih1 _ _ _ _ _ _)
      | (with_reducible exact ih2 _ _ _ _ _ _)
      | (with_reducible exact tlex_remark.mono _ _)
      | (with_reducible exact LeO.refl _)
      | (with_reducible exact LeO.none _)
      | (with_reducible refine LeO.ite ?_ ?_)
      | (with_reducible refine LeO.bind ?_ (fun _ => ?_))
      | exact ih0 _ _ _
      | exact ih1 _ _ _ _ _ _
      | exact ih2 _ _ _ _ _ _
      | exact tlex_remark.mono _ _
      | exact LeO.none _
      | refine LeO.ite ?_ ?_
      | refine LeO.bind ?_ (fun _ => ?_)
set_option maxHeartbeats 8000000 in
set_option maxRecDepth 100000 in
theorem tlex_Skip.calls (k : Nat) (a0 : ByteArray) (a1 : Int) (a2 : Bool) (r : Int) (w : World) (h : tlex_Skip.f k a0 a1 a2 = some r) :
    Calls Tryz.prog 30 #[.string a0, .int .i64 a1, .bool a2] w fun e w' => e = .returned (.int .i64 r) ∧ Below w.heap.size w w' := by
  have HB := Aside0.mk (Below.refl w.heap.size w)
  have H : ((tlex_clamp.f a0 a1).bind fun t129 => (tlex_Skip.l0 k a0 t129 a2)) = some r := h
  clear h
  replace H := Option.bind_eq_some_iff.mp H
  obtain ⟨t129, A40, H⟩ := H
  replace H : (tlex_Skip.l0 k a0 t129 a2) = some r := H
  have A4 := Aside0.mk A40
  clear A40
  have H' := Aside0.mk H
  clear H
  go_enter Tryz.func30, Tryz.ntmps30
  go_wp2_with (first | ((with_reducible refine gate_callee (f := 39) rfl ?_); refine goesL_ (some 11) rfl rfl Tryz.func39 (by kernel_rfl) rfl #[.string a0, .int .i64 a1] rfl (by (try simp only [List.map_toArray, List.map_cons, List.map_nil]); first | done | rfl | (simp only [List.length_drop, List.length_take]; rfl)) ?_; (with_reducible refine (tlex_clamp.calls a0 a1 t129 _ A4.out).mono ?_); rintro e w5 ⟨rfl, hb⟩; refine ⟨_, rfl, ?_⟩; have n0_ := Aside0.mk (below_step (by repeat (first | (with_reducible first | exact HB.out | apply below_alloc | apply pw_below_drewN | apply below_drew1) | exact HB.out)) hb); clear HB; have HB := n0_; clear n0_; (try clear hb); (try clear hb2); (try clear hk); (try clear hi)))
  go_loopg [1] k (fun kq v1 w' => ∃ (x1_1 : Int), v1 = .int .i64 x1_1 ∧ Aside0 (tlex_Skip.l0 kq a0 x1_1 a2 = some r) ∧ Aside0 (kq ≤ k) ∧ Aside0 (Below w.heap.size w w'))
  case atStart => exact ⟨(t129), (by first | rfl | (simp; done) | (simp [*]; done)), H', ⟨Nat.le_refl _⟩, ⟨by repeat (first | (with_reducible first | exact HB.out | apply below_alloc | apply pw_below_drewN | apply below_drew1) | exact HB.out)⟩⟩
  case round =>
    clear H'
    try clear p2
    try clear c3
    obtain ⟨x1_1, rfl, HA, HK1, HB⟩ := hrel
    cases gk with
    | zero => exact absurd HA.out (by simp [tlex_Skip.l0])
    | succ k1 =>
      have H := HA.out
      clear HA
      simp only [tlex_Skip.l0] at H
      by_cases c6 : x1_1 < (a0.size : Int)
      · rw [if_pos c6] at H
        have c6b0 : decide (x1_1 < (a0.size : Int)) = true := decide_eq_true c6
        clear c6
        by_cases c7 : 0 ≤ x1_1
        · rw [if_pos c7] at H
          have c7b0 := eq_true c7
          have c7b1 : decide (0 ≤ x1_1) = true := decide_eq_true c7
          clear c7
          by_cases c8 : x1_1 ≤ (a0.size : Int)
          · rw [if_pos c8] at H
            have c8b0 := eq_true c8
            have c8b1 : decide (x1_1 ≤ (a0.size : Int)) = true := decide_eq_true c8
            clear c8
            replace H := Option.bind_eq_some_iff.mp H
            obtain ⟨t130, A90, H⟩ := H
            replace H : (if 0 < ((a0.extract (x1_1 : Int).toNat a0.size).size : Int) then (if (bt (a0.extract (x1_1 : Int).toNat a0.size) 0) = 32 then (tlex_Skip.j1 k1 a0 x1_1 a2 (a0.extract (x1_1 : Int).toNat a0.size) t130 true) else (tlex_Skip.j1 k1 a0 x1_1 a2 (a0.extract (x1_1 : Int).toNat a0.size) t130 ((bt (a0.extract (x1_1 : Int).toNat a0.size) 0) == 9))) else (none)) = some r := H
            have A9 := Aside0.mk A90
            clear A90
            have HC10 := Aside0.mk H
            clear H
            go_upto_region 6 with (first | ((with_reducible refine gate_callee (f := 53) rfl ?_); refine goesL_ (some 20) rfl rfl Tryz.func53 (by kernel_rfl) rfl #[.string (a0.extract (x1_1 : Int).toNat a0.size)] rfl (by (try simp only [List.map_toArray, List.map_cons, List.map_nil]); first | done | rfl | (simp only [List.length_drop, List.length_take]; rfl)) ?_; (with_reducible refine (tlex_lineEnd.calls (a0.extract (x1_1 : Int).toNat a0.size) t130 _ A9.out).mono ?_); rintro e w' ⟨rfl, ⟨nd, rfl⟩⟩; refine ⟨_, rfl, ?_⟩))
            (try simp only [Act.put, List.setIfInBounds_toArray, List.set_cons_zero, List.set_cons_succ])
            go_cut [22] (fun v22 wc => ∃ (kq : Nat) (x22_9 : Bool), v22 = .bool x22_9 ∧ Aside0 (tlex_Skip.j1 kq a0 x1_1 a2 (a0.extract (x1_1 : Int).toNat a0.size) t130 x22_9 = some r) ∧ Aside0 (kq ≤ k1) ∧ Aside0 (Below w.heap.size w wc))
            case first =>
              have H := HC10.out
              clear HC10
              by_cases c11 : 0 < ((a0.extract (x1_1 : Int).toNat a0.size).size : Int)
              · rw [if_pos c11] at H
                have c11b0 : decide (0 < ((a0.extract (x1_1 : Int).toNat a0.size).size : Int)) = true := decide_eq_true c11
                have c11b1 : decide (0 < (a0.extract (x1_1 : Int).toNat a0.size).size) = true := decide_eq_true (by omega)
                clear c11
                (first | rw [c11b0] | (simp only [i64_w, i32_w]; rw [c11b0]) | skip)
                by_cases c13 : (bt (a0.extract (x1_1 : Int).toNat a0.size) 0) = 32
                · rw [if_pos c13] at H
                  have c13b0 : ((bt (a0.extract (x1_1 : Int).toNat a0.size) 0) == 32) = true := beq_iff_eq.mpr c13
                  have c13b1 : ((bt (a0.extract (x1_1 : Int).toNat a0.size) 0) != 32) = false := bne_eq_false_iff_eq.mpr c13
                  clear c13
                  have H' := Aside0.mk H
                  clear H
                  generalize hz0 : (a0.extract (x1_1 : Int).toNat a0.size) = z0 at *
                  have p12 : 0 ≤ (0 : Int) := (by omega)
                  have q12 : 0 < z0.size := (by have : (0 : Int) < (z0.size : Int) := of_decide_eq_true (by first | (with_reducible assumption) | assumption); omega)
                  have hx12 : ∀ h : 0 < z0.size, ((z0[0]'h).toNat : Int) = bt z0 0 := bt_at z0 0
                  clear p12
                  have qi12 : (0 < (z0.size : Int)) = True := eq_true (of_decide_eq_true (by first | (with_reducible assumption) | assumption))
                  replace q12 := eq_true q12
                  go_wp2
                  subst hz0

                  go_meet
                  case rel => exact ⟨_, (true), (by first | rfl | (simp; done) | (simp [*]; done)), H', ⟨by have := HK1.out; first | omega | exact Nat.le_refl _⟩, ⟨by repeat (first | (with_reducible first | exact HB.out | apply below_alloc | apply pw_below_drewN | apply below_drew1) | exact HB.out)⟩⟩
                · rw [if_neg c13] at H
                  have c13b0 : ((bt (a0.extract (x1_1 : Int).toNat a0.size) 0) == 32) = false := beq_eq_false_iff_ne.mpr c13
                  have c13b1 : ((bt (a0.extract (x1_1 : Int).toNat a0.size) 0) != 32) = true := bne_iff_ne.mpr c13
                  have H' := Aside0.mk H
                  clear H
                  generalize hz0 : (a0.extract (x1_1 : Int).toNat a0.size) = z0 at *
                  have p12 : 0 ≤ (0 : Int) := (by omega)
                  have q12 : 0 < z0.size := (by have : (0 : Int) < (z0.size : Int) := of_decide_eq_true (by first | (with_reducible assumption) | assumption); omega)
                  have hx12 : ∀ h : 0 < z0.size, ((z0[0]'h).toNat : Int) = bt z0 0 := bt_at z0 0
                  clear p12
                  have qi12 : (0 < (z0.size : Int)) = True := eq_true (of_decide_eq_true (by first | (with_reducible assumption) | assumption))
                  replace q12 := eq_true q12
                  have p14 : 0 ≤ (0 : Int) := (by omega)
                  have q14 : 0 < z0.size := (by have : (0 : Int) < (z0.size : Int) := of_decide_eq_true (by first | (with_reducible assumption) | assumption); omega)
                  have hx14 : ∀ h : 0 < z0.size, ((z0[0]'h).toNat : Int) = bt z0 0 := bt_at z0 0
                  clear p14
                  have qi14 : (0 < (z0.size : Int)) = True := eq_true (of_decide_eq_true (by first | (with_reducible assumption) | assumption))
                  replace q14 := eq_true q14
                  go_wp2
                  subst hz0

                  go_meet
                  case rel => exact ⟨_, (((bt (a0.extract (x1_1 : Int).toNat a0.size) 0) == 9)), (by first | rfl | (simp; done) | (simp [*]; done)), H', ⟨by have := HK1.out; first | omega | exact Nat.le_refl _⟩, ⟨by repeat (first | (with_reducible first | exact HB.out | apply below_alloc | apply pw_below_drewN | apply below_drew1) | exact HB.out)⟩⟩
              · rw [if_neg c11] at H
                exact absurd H (by simp)
            case rest =>
              clear HC10
              try clear c1
              try clear p1
              try clear q1
              try clear hx1
              try clear qi1
              try clear p2
              try clear c3
              try clear c5
              try clear c6
              try clear c6b0
              try clear c7
              try clear c7b0
              try clear c7b1
              try clear c8
              try clear c8b0
              try clear c8b1
              try clear c11
              try clear c11b0
              try clear c11b1
              try clear p12
              try clear q12
              try clear hx12
              try clear qi12
              try clear c13
              try clear c13b0
              try clear c13b1
              try clear p14
              try clear q14
              try clear hx14
              try clear qi14
              try clear p12
              try clear p14
              try clear p2
              try clear q12
              try clear q14
              obtain ⟨kq, x22_9, rfl, HA, HJ9, HB⟩ := hcut
              cases kq with
              | zero => exact absurd HA.out (by simp [tlex_Skip.j1])
              | succ kj9 =>
                have H := HA.out
                clear HA
                simp only [tlex_Skip.j1] at H
                by_cases c15 : x22_9 = true
                · subst c15
                  have H1 : (tlex_Skip.l0 kj9 a0 (wrap64 (x1_1 + 1)) a2) = some r := by rw [if_pos rfl] at H; exact H
                  clear H
                  have H := H1
                  clear H1
                  have H' := Aside0.mk H
                  clear H
                  go_wp2
                  go_roundg kj9
                  case measure => have := HK1.out; have := HJ9.out; omega
                  case rel => exact ⟨(wrap64 (x1_1 + 1)), (by first | rfl | (simp; done) | (simp [*]; done)), H', ⟨by have := HK1.out; have := HJ9.out; omega⟩, ⟨by repeat (first | (with_reducible first | exact HB.out | apply below_alloc | apply pw_below_drewN | apply below_drew1) | exact HB.out)⟩⟩
                · replace c15 := Bool.eq_false_iff.mpr c15
                  subst c15
                  have H1 : (if a2 = true then (tlex_Skip.j2 kj9 a0 x1_1 a2 (a0.extract (x1_1 : Int).toNat a0.size) t130 (decide (t130 > 0))) else (tlex_Skip.j2 kj9 a0 x1_1 a2 (a0.extract (x1_1 : Int).toNat a0.size) t130 false)) = some r := by rw [if_neg (show ¬ (false = true) by decide)] at H; exact H
                  clear H
                  have H := H1
                  clear H1
                  have HC16 := Aside0.mk H
                  clear H
                  go_upto_region 8 with (fail)
                  go_cut [33] (fun v33 wc => ∃ (kq : Nat) (x33_15 : Bool), v33 = .bool x33_15 ∧ Aside0 (tlex_Skip.j2 kq a0 x1_1 a2 (a0.extract (x1_1 : Int).toNat a0.size) t130 x33_15 = some r) ∧ Aside0 (kq ≤ kj9) ∧ Aside0 (Below w.heap.size w wc))
                  case first =>
                    have H := HC16.out
                    clear HC16
                    by_cases c17 : a2 = true
                    · subst c17
                      have H1 : (tlex_Skip.j2 kj9 a0 x1_1 true (a0.extract (x1_1 : Int).toNat a0.size) t130 (decide (t130 > 0))) = some r := by rw [if_pos rfl] at H; exact H
                      clear H
                      have H := H1
                      clear H1
                      have H' := Aside0.mk H
                      clear H
                      go_wp2
                      go_meet
                      case rel => exact ⟨_, (decide (t130 > 0)), (by first | rfl | (simp; done) | (simp [*]; done)), H', ⟨by have := HK1.out; have := HJ9.out; first | omega | exact Nat.le_refl _⟩, ⟨by repeat (first | (with_reducible first | exact HB.out | apply below_alloc | apply pw_below_drewN | apply below_drew1) | exact HB.out)⟩⟩
                    · replace c17 := Bool.eq_false_iff.mpr c17
                      subst c17
                      have H1 : (tlex_Skip.j2 kj9 a0 x1_1 false (a0.extract (x1_1 : Int).toNat a0.size) t130 false) = some r := by rw [if_neg (show ¬ (false = true) by decide)] at H; exact H
                      clear H
                      have H := H1
                      clear H1
                      have H' := Aside0.mk H
                      clear H
                      go_wp2
                      go_meet
                      case rel => exact ⟨_, (false), (by first | rfl | (simp; done) | (simp [*]; done)), H', ⟨by have := HK1.out; have := HJ9.out; first | omega | exact Nat.le_refl _⟩, ⟨by repeat (first | (with_reducible first | exact HB.out | apply below_alloc | apply pw_below_drewN | apply below_drew1) | exact HB.out)⟩⟩
                  case rest =>
                    clear HC16
                    try clear c1
                    try clear p1
                    try clear q1
                    try clear hx1
                    try clear qi1
                    try clear p2
                    try clear c3
                    try clear c5
                    try clear c6
                    try clear c6b0
                    try clear p6
                    try clear c7
                    try clear c7b0
                    try clear c7b1
                    try clear c8
                    try clear c8b0
                    try clear c8b1
                    try clear c11
                    try clear c11b0
                    try clear c11b1
                    try clear p12
                    try clear q12
                    try clear hx12
                    try clear qi12
                    try clear c13
                    try clear c13b0
                    try clear c13b1
                    try clear p14
                    try clear q14
                    try clear hx14
                    try clear qi14
                    try clear c15
                    try clear c17
                    try clear p1
                    try clear p12
                    try clear p14
                    try clear p2
                    try clear q1
                    try clear q12
                    try clear q14
                    obtain ⟨kq, x33_15, rfl, HA, HJ15, HB⟩ := hcut
                    cases kq with
                    | zero => exact absurd HA.out (by simp [tlex_Skip.j2])
                    | succ kj15 =>
                      have H := HA.out
                      clear HA
                      simp only [tlex_Skip.j2] at H
                      by_cases c18 : x33_15 = true
                      · subst c18
                        have H1 : (tlex_Skip.l0 kj15 a0 (wrap64 (x1_1 + t130)) a2) = some r := by rw [if_pos rfl] at H; exact H
                        clear H
                        have H := H1
                        clear H1
                        have H' := Aside0.mk H
                        clear H
                        go_wp2
                        go_roundg kj15
                        case measure => have := HK1.out; have := HJ9.out; have := HJ15.out; omega
                        case rel => exact ⟨(wrap64 (x1_1 + t130)), (by first | rfl | (simp; done) | (simp [*]; done)), H', ⟨by have := HK1.out; have := HJ9.out; have := HJ15.out; omega⟩, ⟨by repeat (first | (with_reducible first | exact HB.out | apply below_alloc | apply pw_below_drewN | apply below_drew1) | exact HB.out)⟩⟩
                      · replace c18 := Bool.eq_false_iff.mpr c18
                        subst c18
                        have H1 : (if a2 = true then (if 0 < ((a0.extract (x1_1 : Int).toNat a0.size).size : Int) then (if (bt (a0.extract (x1_1 : Int).toNat a0.size) 0) = 35 then ((tlex_remark.f kj15 (a0.extract (x1_1 : Int).toNat a0.size)).bind fun t131 => (tlex_Skip.l0 kj15 a0 (wrap64 (x1_1 + t131)) a2)) else (some x1_1)) else (none)) else (some x1_1)) = some r := by rw [if_neg (show ¬ (false = true) by decide)] at H; exact H
                        clear H
                        have H := H1
                        clear H1
                        by_cases c19 : a2 = true
                        · subst c19
                          have H1 : (if 0 < ((a0.extract (x1_1 : Int).toNat a0.size).size : Int) then (if (bt (a0.extract (x1_1 : Int).toNat a0.size) 0) = 35 then ((tlex_remark.f kj15 (a0.extract (x1_1 : Int).toNat a0.size)).bind fun t131 => (tlex_Skip.l0 kj15 a0 (wrap64 (x1_1 + t131)) true)) else (some x1_1)) else (none)) = some r := by rw [if_pos rfl] at H; exact H
                          clear H
                          have H := H1
                          clear H1
                          by_cases c20 : 0 < ((a0.extract (x1_1 : Int).toNat a0.size).size : Int)
                          · rw [if_pos c20] at H
                            have c20b0 : decide (0 < ((a0.extract (x1_1 : Int).toNat a0.size).size : Int)) = true := decide_eq_true c20
                            have c20b1 : decide (0 < (a0.extract (x1_1 : Int).toNat a0.size).size) = true := decide_eq_true (by omega)
                            clear c20
                            by_cases c22 : (bt (a0.extract (x1_1 : Int).toNat a0.size) 0) = 35
                            · rw [if_pos c22] at H
                              have c22b0 : ((bt (a0.extract (x1_1 : Int).toNat a0.size) 0) == 35) = true := beq_iff_eq.mpr c22
                              have c22b1 : ((bt (a0.extract (x1_1 : Int).toNat a0.size) 0) != 35) = false := bne_eq_false_iff_eq.mpr c22
                              clear c22
                              replace H := Option.bind_eq_some_iff.mp H
                              obtain ⟨t131, A230, H⟩ := H
                              replace H : (tlex_Skip.l0 kj15 a0 (wrap64 (x1_1 + t131)) true) = some r := H
                              have A23 := Aside0.mk A230
                              clear A230
                              have H' := Aside0.mk H
                              clear H
                              generalize hz0 : (a0.extract (x1_1 : Int).toNat a0.size) = z0 at *
                              have p21 : 0 ≤ (0 : Int) := (by omega)
                              have q21 : 0 < z0.size := (by have : (0 : Int) < (z0.size : Int) := of_decide_eq_true (by first | (with_reducible assumption) | assumption); omega)
                              have hx21 : ∀ h : 0 < z0.size, ((z0[0]'h).toNat : Int) = bt z0 0 := bt_at z0 0
                              clear p21
                              have qi21 : (0 < (z0.size : Int)) = True := eq_true (of_decide_eq_true (by first | (with_reducible assumption) | assumption))
                              replace q21 := eq_true q21
                              go_wp2_with (first | ((with_reducible refine gate_callee (f := 54) rfl ?_); refine goesL_ (some 51) rfl rfl Tryz.func54 (by kernel_rfl) rfl #[.string z0] rfl (by (try simp only [List.map_toArray, List.map_cons, List.map_nil]); first | done | rfl | (simp only [List.length_drop, List.length_take]; rfl)) ?_; (with_reducible refine (tlex_remark.calls kj15 z0 t131 _ A23.out).mono ?_); rintro e w' ⟨rfl, ⟨nd, rfl⟩⟩; refine ⟨_, rfl, ?_⟩))
                              subst hz0
                              go_roundg kj15
                              case measure => have := HK1.out; have := HJ9.out; have := HJ15.out; omega
                              case rel => exact ⟨(wrap64 (x1_1 + t131)), (by first | rfl | (simp; done) | (simp [*]; done)), H', ⟨by have := HK1.out; have := HJ9.out; have := HJ15.out; omega⟩, ⟨by repeat (first | (with_reducible first | exact HB.out | apply below_alloc | apply pw_below_drewN | apply below_drew1) | exact HB.out)⟩⟩
                            · rw [if_neg c22] at H
                              have c22b0 : ((bt (a0.extract (x1_1 : Int).toNat a0.size) 0) == 35) = false := beq_eq_false_iff_ne.mpr c22
                              have c22b1 : ((bt (a0.extract (x1_1 : Int).toNat a0.size) 0) != 35) = true := bne_iff_ne.mpr c22
                              obtain rfl := Option.some.inj H
                              generalize hz0 : (a0.extract (x1_1 : Int).toNat a0.size) = z0 at *
                              have p21 : 0 ≤ (0 : Int) := (by omega)
                              have q21 : 0 < z0.size := (by have : (0 : Int) < (z0.size : Int) := of_decide_eq_true (by first | (with_reducible assumption) | assumption); omega)
                              have hx21 : ∀ h : 0 < z0.size, ((z0[0]'h).toNat : Int) = bt z0 0 := bt_at z0 0
                              clear p21
                              have qi21 : (0 < (z0.size : Int)) = True := eq_true (of_decide_eq_true (by first | (with_reducible assumption) | assumption))
                              replace q21 := eq_true q21
                              go_wp2
                              subst hz0

                              go_ret
                              exact ⟨by first | rfl | (simp [errW_none, errW_some] <;> rfl) | (simp [*, errW_none, errW_some] <;> rfl), by repeat (first | (with_reducible first | exact HB.out | apply below_alloc | apply pw_below_drewN | apply below_drew1) | exact HB.out)⟩
                          · rw [if_neg c20] at H
                            exact absurd H (by simp)
                        · replace c19 := Bool.eq_false_iff.mpr c19
                          subst c19
                          have H1 : (some x1_1) = some r := by rw [if_neg (show ¬ (false = true) by decide)] at H; exact H
                          clear H
                          have H := H1
                          clear H1
                          obtain rfl := Option.some.inj H
                          go_wp2
                          go_ret
                          exact ⟨by first | rfl | (simp [errW_none, errW_some] <;> rfl) | (simp [*, errW_none, errW_some] <;> rfl), by repeat (first | (with_reducible first | exact HB.out | apply below_alloc | apply pw_below_drewN | apply below_drew1) | exact HB.out)⟩
          · rw [if_neg c8] at H
            exact absurd H (by simp)
        · rw [if_neg c7] at H
          exact absurd H (by simp)
      · rw [if_neg c6] at H
        have c6b0 : decide (x1_1 < (a0.size : Int)) = false := decide_eq_false c6
        clear c6
        obtain rfl := Option.some.inj H
        go_wp2
        go_ret
        exact ⟨by first | rfl | (simp [errW_none, errW_some] <;> rfl) | (simp [*, errW_none, errW_some] <;> rfl), by repeat (first | (with_reducible first | exact HB.out | apply below_alloc | apply pw_below_drewN | apply below_drew1) | exact HB.out)⟩

-- NOT PRINTED: function 83 (tread_reader_skip)

-- NOT PRINTED: function 84 (tread_reader_begins)

-- NOT PRINTED: function 140 (tread_fail)

-- NOT PRINTED: function 87 (tread_reader_line)

-- NOT PRINTED: function 132 (tread_reader_take)

/-- A state of type 92 at block g of W; what its slices lead to came in by w0. -/
def IsS92 (w0 W : World) (g : Nat) (f0 : ByteArray) (f1 : Int) (f2 : List Int) : Prop := ∃ A2 c2, W.heap[g]? = some (.cells #[.string f0, .int .i64 f1, .slice A2 f2.length c2] 92 (0, 0)) ∧ w0.heap.size ≤ g ∧ Kd.C (Kd.int .u8) w0 A2 f2.length f2
theorem IsS92.grown {w0 W : World} {g : Nat} {f0 : ByteArray} {f1 : Int} {f2 : List Int} {W1 : World} {row : Option Nat} (h : IsS92 w0 W g f0 f1 f2) (hw : W.grownBy W1 row) (hne : some g ≠ row) : IsS92 w0 W1 g f0 f1 f2 := by
  obtain ⟨A2, c2, hb, hg, hr2⟩ := h
  exact ⟨A2, c2, blk_grown hb hw hne, hg, hr2⟩
theorem IsS92.own_neN {w0 W : World} {g : Nat} {f0 : ByteArray} {f1 : Int} {f2 : List Int} {α : Type} {d : Kd α} {e : Nat} {base : Nat} {ok : Nat → Prop} {v : Value} {xs : List α} (h : IsS92 w0 W g f0 f1 f2) (ho : Kd.N d e W base ok v xs) (ht : e ≠ 92) : some g ≠ v.ownBlock := by
  obtain ⟨A2, c2, hb, hg, hr2⟩ := h
  exact Kd.N_ne ho hb ht
theorem IsS92.fresh {w0 W : World} {g : Nat} {f0 : ByteArray} {f1 : Int} {f2 : List Int} (h : IsS92 w0 W g f0 f1 f2) : ∀ k, W.heap.size ≤ k → k ≠ g := by
  obtain ⟨A2, c2, hb, hg, hr2⟩ := h
  exact Kd.freshB hb
theorem IsS92.kept {w0 W : World} {g : Nat} {f0 : ByteArray} {f1 : Int} {f2 : List Int} {W1 : World} {S : Nat → Prop} (h : IsS92 w0 W g f0 f1 f2) (hk : Kept W W1 S) (hne : ¬ S g) : IsS92 w0 W1 g f0 f1 f2 := by
  obtain ⟨A2, c2, hb, hg, hr2⟩ := h
  exact ⟨A2, c2, blk_kept hb hk hne, hg, hr2⟩
theorem IsS92.below {w0 W : World} {g : Nat} {f0 : ByteArray} {f1 : Int} {f2 : List Int} {W1 : World} (h : IsS92 w0 W g f0 f1 f2) (hw : Below W.heap.size W W1) : IsS92 w0 W1 g f0 f1 f2 := h.grown (grown_of_below hw none) (by simp)
theorem IsS92.alloc {w0 W : World} {g : Nat} {f0 : ByteArray} {f1 : Int} {f2 : List Int} (h : IsS92 w0 W g f0 f1 f2) (o : Obj) : IsS92 w0 (W.alloc o) g f0 f1 f2 := h.below (below_alloc (Below.refl _ _) o)
theorem IsS92.drewN {w0 W : World} {g : Nat} {f0 : ByteArray} {f1 : Int} {f2 : List Int} (h : IsS92 w0 W g f0 f1 f2) (m : Nat) : IsS92 w0 (W.drewN m) g f0 f1 f2 := h
theorem IsS92.drew {w0 W : World} {g : Nat} {f0 : ByteArray} {f1 : Int} {f2 : List Int} (h : IsS92 w0 W g f0 f1 f2) : IsS92 w0 W.drew g f0 f1 f2 := h
theorem IsS92.at_ {w0 W : World} {g : Nat} {f0 : ByteArray} {f1 : Int} {f2 : List Int} {w' : World} {m : Nat} (hq : W.drewN m = w') (h : IsS92 w0 W g f0 f1 f2) : IsS92 w0 w' g f0 f1 f2 := by subst hq; exact IsS92.drewN h m
theorem IsS92.apart {w0 W : World} {g : Nat} {f0 : ByteArray} {f1 : Int} {f2 : List Int} {α : Type} {d : Kd α} {e : Nat} {base : Nat} {ok : Nat → Prop} {v : Value} {xs : List α} (h : IsS92 w0 W g f0 f1 f2) (ho : d.R e W base ok v xs) (ht : ∀ q, q ∈ e :: d.E → q ≠ 92) : d.R e W base (fun k => ok k ∧ k ≠ g) v xs := by
  obtain ⟨A2, c2, hb, hg, hr2⟩ := h
  exact Kd.R_types ho hb ht
theorem IsS92.own_ne {w0 W : World} {g : Nat} {f0 : ByteArray} {f1 : Int} {f2 : List Int} {α : Type} {d : Kd α} {e : Nat} {base : Nat} {ok : Nat → Prop} {v : Value} {xs : List α} (h : IsS92 w0 W g f0 f1 f2) (ho : d.R e W base ok v xs) (ht : e ≠ 92) : some g ≠ v.ownBlock := by
  obtain ⟨A2, c2, hb, hg, hr2⟩ := h
  exact Kd.R_ne ho hb ht
theorem IsS92.apartQ {w0 W : World} {g : Nat} {f0 : ByteArray} {f1 : Int} {f2 : List Int} {α : Type} {d : Kd α} {e : Nat} {base : Nat} {ok : Nat → Prop} {v : Value} {xs : List α} (h : IsS92 w0 W g f0 f1 f2) (ho : d.Q e W base ok v xs) (ht : ∀ q, q ∈ e :: d.E → q ≠ 92) : d.Q e W base (fun k => ok k ∧ k ≠ g) v xs := by
  obtain ⟨A2, c2, hb, hg, hr2⟩ := h
  exact Kd.Q_types ho hb ht
theorem IsS92.own_neQ {w0 W : World} {g : Nat} {f0 : ByteArray} {f1 : Int} {f2 : List Int} {α : Type} {d : Kd α} {e : Nat} {base : Nat} {ok : Nat → Prop} {v : Value} {xs : List α} (h : IsS92 w0 W g f0 f1 f2) (ho : d.Q e W base ok v xs) (ht : e ≠ 92) : some g ≠ v.ownBlock := by
  obtain ⟨A2, c2, hb, hg, hr2⟩ := h
  exact Kd.Q_ne ho hb ht
theorem IsS92.apartS {w0 W : World} {g : Nat} {f0 : ByteArray} {f1 : Int} {f2 : List Int} {α : Type} {d : Kd α} {e : Nat} {base : Nat} {ok : Nat → Prop} {v : Value} {xs : List α} (h : IsS92 w0 W g f0 f1 f2) (ho : d.S e W base ok v xs) (ht : ∀ q, q ∈ e :: d.E → q ≠ 92) : d.S e W base (fun k => ok k ∧ k ≠ g) v xs := by
  obtain ⟨A2, c2, hb, hg, hr2⟩ := h
  exact Kd.S_types ho hb ht
theorem IsS92.own_neS {w0 W : World} {g : Nat} {f0 : ByteArray} {f1 : Int} {f2 : List Int} {α : Type} {d : Kd α} {e : Nat} {base : Nat} {ok : Nat → Prop} {v : Value} {xs : List α} (h : IsS92 w0 W g f0 f1 f2) (ho : d.S e W base ok v xs) (ht : e ≠ 92) : some g ≠ v.ownBlock := by
  obtain ⟨A2, c2, hb, hg, hr2⟩ := h
  exact Kd.S_ne ho hb ht
theorem IsS92.lt {w0 W : World} {g : Nat} {f0 : ByteArray} {f1 : Int} {f2 : List Int} (h : IsS92 w0 W g f0 f1 f2) : g < W.heap.size := by
  obtain ⟨A2, c2, hb, hg, hr2⟩ := h
  exact blk_lt hb
theorem IsS92.ge {w0 W : World} {g : Nat} {f0 : ByteArray} {f1 : Int} {f2 : List Int} (h : IsS92 w0 W g f0 f1 f2) : w0.heap.size ≤ g := by
  obtain ⟨A2, c2, hb, hg, hr2⟩ := h
  exact hg
theorem IsS92.ne_blk {w0 W : World} {g : Nat} {f0 : ByteArray} {f1 : Int} {f2 : List Int} {a : Nat} {cs : Array Value} {t : TypeId} {fr : Nat × Nat} (h : IsS92 w0 W g f0 f1 f2) (hb2 : W.heap[a]? = some (.cells cs t fr)) (ht : t ≠ 92) : g ≠ a := by
  obtain ⟨A2, c2, hb, hg, hr2⟩ := h
  rintro rfl
  rw [hb] at hb2
  injection hb2 with hb2
  injection hb2 with _ ht2
  exact ht ht2.symm
theorem IsS92.far {w0 W : World} {g : Nat} {f0 : ByteArray} {f1 : Int} {f2 : List Int} {p : Addr} (h : IsS92 w0 W g f0 f1 f2) (hne : g ≠ p.block) (u : Value) : IsS92 w0 (W.setCell p u) g f0 f1 f2 := by
  obtain ⟨A2, c2, hb, hg, hr2⟩ := h
  exact ⟨A2, c2, blk_far hb hne u, hg, hr2⟩
theorem cellS92_0 {W : World} {g : Nat} {A2 : Option Addr} {c2 : Nat} {f0 : ByteArray} {f1 : Int} {f2 : List Int} (h : W.heap[g]? = some (.cells #[.string f0, .int .i64 f1, .slice A2 f2.length c2] 92 (0, 0))) : W.cell? ⟨g, 0, none⟩ = some (.string f0) := (blk_cell h 0).trans rfl
theorem IsS92.set_0 {w0 W : World} {g : Nat} {f0 : ByteArray} {f1 : Int} {f2 : List Int} (h : IsS92 w0 W g f0 f1 f2) (x : ByteArray) : IsS92 w0 (W.setCell ⟨g, 0, none⟩ (.string x)) g x f1 f2 := by
  obtain ⟨A2, c2, hb, hg, hr2⟩ := h
  exact ⟨A2, c2, by simpa using blk_set hb 0 (.string x), hg, hr2⟩
theorem cellS92_1 {W : World} {g : Nat} {A2 : Option Addr} {c2 : Nat} {f0 : ByteArray} {f1 : Int} {f2 : List Int} (h : W.heap[g]? = some (.cells #[.string f0, .int .i64 f1, .slice A2 f2.length c2] 92 (0, 0))) : W.cell? ⟨g, 1, none⟩ = some (.int .i64 f1) := (blk_cell h 1).trans rfl
theorem IsS92.set_1 {w0 W : World} {g : Nat} {f0 : ByteArray} {f1 : Int} {f2 : List Int} (h : IsS92 w0 W g f0 f1 f2) (x : Int) : IsS92 w0 (W.setCell ⟨g, 1, none⟩ (.int .i64 x)) g f0 x f2 := by
  obtain ⟨A2, c2, hb, hg, hr2⟩ := h
  exact ⟨A2, c2, by simpa using blk_set hb 1 (.int .i64 x), hg, hr2⟩
theorem cellS92_2 {W : World} {g : Nat} {A2 : Option Addr} {c2 : Nat} {f0 : ByteArray} {f1 : Int} {f2 : List Int} (h : W.heap[g]? = some (.cells #[.string f0, .int .i64 f1, .slice A2 f2.length c2] 92 (0, 0))) : W.cell? ⟨g, 2, none⟩ = some (.slice A2 f2.length c2) := (blk_cell h 2).trans rfl
theorem IsS92.new (w0 W : World) (A2 : Option Addr) (c2 : Nat) (f0 : ByteArray) (f1 : Int) (f2 : List Int) (hB : Below w0.heap.size w0 W) (hr2 : Kd.C (Kd.int .u8) w0 A2 f2.length f2) : IsS92 w0 (W.alloc (.cells #[.string f0, .int .i64 f1, .slice A2 f2.length c2] 92)) W.heap.size f0 f1 f2 := ⟨A2, c2, by simpa using heap_alloc_new W _, hB.size, hr2⟩

end Go.Proofs.YtfddpaljmihinaaGreatDoor.PTreadTwice

/-! ## EvSkip -/
namespace Go.Proofs.YtfddpaljmihinaaGreatDoor
namespace Ev
open Go Go.RowKit Go.Proofs.YtfddpaljmihinaaGreatDoorW.PrintWords Go.Proofs.YtfddpaljmihinaaGreatDoorW.PrintLast Go.Proofs.YtfddpaljmihinaaGreatDoorW.PrintMore Go.Proofs.YtfddpaljmihinaaGreatDoor.PTreadTwice
noncomputable section
/-! ### tlex.Skip -/
theorem prefixB_take : ∀ p s : List UInt8, prefixB p s = (decide (p.length ≤ s.length) && (s.take p.length == p))
  | [], s => by simp [prefixB]
  | a :: p, [] => by simp [prefixB]
  | a :: p, b :: s => by
    have ih := prefixB_take p s
    simp only [prefixB, byte_beq, List.length_cons, List.take_succ_cons, Nat.add_le_add_iff_right]
    cases h : (a == b) with
    | false =>
      have : ¬ b = a := fun e => by rw [e] at h; simp at h
      simp [this]
    | true =>
      have : b = a := (beq_iff_eq.1 h).symm
      rw [ih, this]
      simp

theorem hasPrefix_f (a0 a1 : ByteArray) : strings_HasPrefix.f a0 a1 = some (prefixB a1.data.toList a0.data.toList) := by
  have h0 := size_cons (a0 := a0) rfl
  have h1 := size_cons (a0 := a1) rfl
  unfold strings_HasPrefix.f stringslite_HasPrefix.f
  rw [prefixB_take, ← h0, ← h1]
  by_cases c : a1.size ≤ a0.size
  · rw [if_pos (by omega), if_pos (by omega), if_pos (by omega), Int.toNat_natCast]
    simp only [Option.bind_some, decide_eq_true c, Bool.true_and]
    rw [ByteArray.toList_eq, ByteArray.toList_eq, ByteArray.data_extract, Array.toList_extract, List.extract_eq_take_drop]
    simp
  · rw [if_neg (by omega)]
    simp [c]

def lineN (l : List UInt8) : Nat :=
  match prefixB [10] l with
  | true => 1
  | false => match prefixB [13, 10] l with
    | true => 2
    | false => 0

theorem lineEnd_f (a0 : ByteArray) : tlex_lineEnd.f a0 = some (lineN a0.data.toList : Int) := by
  unfold tlex_lineEnd.f lineN
  rw [hasPrefix_f, hasPrefix_f]
  simp only [Option.bind_some]
  cases prefixB [10] a0.data.toList with
  | true => rfl
  | false =>
    cases prefixB [13, 10] a0.data.toList with
    | true => rfl
    | false => rfl

def skipEnd (F : Nat → Option Nat) (lines : Bool) (b : UInt8) (n a : Nat) : Option Nat :=
  match lines with
  | false => some a
  | true => match n with
    | 0 => match Nat.beq b.toNat 35 with
      | true => none
      | false => some a
    | n + 1 => F (n + 1)

/-- Where Skip ends, without remarks. -/
def skipN (lines : Bool) : Nat → List UInt8 → Nat → Option Nat
  | 0, _, _ => none
  | _ + 1, [], a => some a
  | k + 1, b :: r, a => match Nat.beq b.toNat 32 || Nat.beq b.toNat 9 with
    | true => skipN lines k r (a + 1)
    | false => skipEnd (fun j => skipN lines k ((b :: r).drop j) (a + j)) lines b (lineN (b :: r)) a

theorem lineN_le (l : List UInt8) : lineN l ≤ 2 := by
  unfold lineN
  split
  · omega
  · split <;> omega

theorem lineN_len (l : List UInt8) : lineN l ≤ l.length := by
  unfold lineN
  cases h1 : prefixB [10] l with
  | true =>
    rw [prefixB_take, Bool.and_eq_true, decide_eq_true_eq] at h1
    exact h1.1
  | false =>
    cases h2 : prefixB [13, 10] l with
    | true =>
      rw [prefixB_take, Bool.and_eq_true, decide_eq_true_eq] at h2
      exact h2.1
    | false => exact Nat.zero_le _

theorem skip_law {s : ByteArray} (hsz : s.size < 1073741824) {lines : Bool} : ∀ (k : Nat) (a e : Nat), a ≤ s.size → skipN lines k (s.data.toList.drop a) a = some e → tlex_Skip.l0 (3 * k) s (a : Int) lines = some (e : Int) := by
  intro k
  induction k with
  | zero => intro a e _ h; cases h
  | succ k ih =>
    intro a e ha h
    have hl : s.size = s.data.toList.length := by simp
    have hx := extract_list s a
    show tlex_Skip.l0 ((3 * k + 2) + 1) s (a : Int) lines = _
    cases hd : s.data.toList.drop a with
    | nil =>
      rw [hd] at h
      cases h
      have : s.data.toList.length ≤ a := List.drop_eq_nil_iff.1 hd
      simp only [tlex_Skip.l0]
      rw [if_neg (by omega)]
    | cons b r =>
      have hlt : a < s.data.toList.length := by
        rcases Nat.lt_or_ge a s.data.toList.length with c | c
        · exact c
        · rw [List.drop_eq_nil_of_le c] at hd; cases hd
      rw [hd] at h hx
      have hbt := bt_cons hx
      have hes : (0 : Int) < ((s.extract a s.size).size : Int) := by rw [size_cons hx]; simp
      have next : ∀ j, j + a ≤ s.size → s.data.toList.drop (a + j) = (b :: r).drop j := fun j _ => by rw [← hd, List.drop_drop]
      simp only [skipN] at h
      simp only [tlex_Skip.l0]
      rw [if_pos (by omega), if_pos (by omega), if_pos (by omega), Int.toNat_natCast, lineEnd_f, hx]
      simp only [Option.bind_some]
      rw [if_pos hes, hbt]
      have go1 : skipN lines k r (a + 1) = some e → tlex_Skip.j1 (3 * k + 2) s (a : Int) lines (s.extract a s.size) (lineN (b :: r) : Int) true = some (e : Int) := by
        intro h
        show tlex_Skip.j1 ((3 * k + 1) + 1) s (a : Int) lines (s.extract a s.size) (lineN (b :: r) : Int) true = _
        simp only [tlex_Skip.j1, if_true]
        rw [wrap64_small (by omega) (by omega)]
        have hi := ih (a + 1) e (by omega) (by rw [next 1 (by omega)]; exact h)
        exact (tlex_Skip.mono_l (3 * k)).1 _ _ _ _ hi
      have go2 : skipEnd (fun j => skipN lines k ((b :: r).drop j) (a + j)) lines b (lineN (b :: r)) a = some e → tlex_Skip.j1 (3 * k + 2) s (a : Int) lines (s.extract a s.size) (lineN (b :: r) : Int) false = some (e : Int) := by
        intro h
        show tlex_Skip.j1 ((3 * k + 1) + 1) s (a : Int) lines (s.extract a s.size) (lineN (b :: r) : Int) false = _
        simp only [tlex_Skip.j1]
        rw [if_neg (by decide : ¬ (false = true))]
        cases lines with
        | false =>
          cases h
          rw [if_neg (by decide : ¬ (false = true))]
          show tlex_Skip.j2 ((3 * k) + 1) s (a : Int) false (s.extract a s.size) (lineN (b :: r) : Int) false = _
          simp only [tlex_Skip.j2]
          rw [if_neg (by decide : ¬ (false = true)), if_neg (by decide : ¬ (false = true))]
        | true =>
          rw [if_pos rfl]
          show tlex_Skip.j2 ((3 * k) + 1) s (a : Int) true (s.extract a s.size) (lineN (b :: r) : Int) (decide ((lineN (b :: r) : Int) > 0)) = _
          have hll := lineN_len (b :: r)
          cases hn : lineN (b :: r) with
          | zero =>
            rw [hn] at h
            simp only [skipEnd] at h
            have hd0 : decide (((0 : Nat) : Int) > 0) = false := by decide
            rw [hd0]
            simp only [tlex_Skip.j2]
            rw [if_neg (by decide : ¬ (false = true)), if_pos trivial, if_pos hes, hbt]
            split at h
            · cases h
            · rename_i h35
              cases h
              have : ¬ (b.toNat : Int) = 35 := by
                intro c
                have : b.toNat = 35 := by omega
                rw [this] at h35
                cases h35
              rw [if_neg this]
          | succ n =>
            rw [hn] at h hll
            simp only [skipEnd] at h
            have hd1 : decide (((n + 1 : Nat) : Int) > 0) = true := by rw [decide_eq_true_eq]; omega
            rw [hd1]
            simp only [tlex_Skip.j2, if_true]
            have hlen : (b :: r).length = s.size - a := by rw [← hd, List.length_drop, hl]
            rw [hlen] at hll
            have hle : a + (n + 1) ≤ s.size := by clear h ih go1 next hd hx hbt hes; omega
            have hw : wrap64 ((a : Int) + ((n + 1 : Nat) : Int)) = ((a + (n + 1) : Nat) : Int) := by
              clear h ih go1 next hd hx hbt hes
              rw [wrap64_small (by omega) (by omega)]
              omega
            rw [hw]
            refine ih (a + (n + 1)) e hle ?_
            rw [next (n + 1) (by clear h ih go1 next hd hx hbt hes; omega)]
            exact h
      cases hb : (Nat.beq b.toNat 32 || Nat.beq b.toNat 9) with
      | true =>
        rw [hb] at h
        by_cases c : (b.toNat : Int) = 32
        · rw [if_pos c]
          exact go1 h
        · rw [if_neg c]
          have h9 : b.toNat = 9 := by
            rw [Bool.or_eq_true] at hb
            rcases hb with q | q
            · exact absurd (by rw [Nat.eq_of_beq_eq_true q]; rfl) c
            · exact Nat.eq_of_beq_eq_true q
          have : ((b.toNat : Int) == 9) = true := by rw [h9]; rfl
          rw [this]
          exact go1 h
      | false =>
        rw [hb] at h
        rw [Bool.or_eq_false_iff] at hb
        have h32 : ¬ (b.toNat : Int) = 32 := by
          intro c
          have : b.toNat = 32 := by omega
          rw [this] at hb
          cases hb.1
        have h9 : ((b.toNat : Int) == 9) = false := by
          rw [beq_eq_false_iff_ne]
          intro c
          have : b.toNat = 9 := by omega
          rw [this] at hb
          cases hb.2
        rw [if_neg h32, h9]
        exact go2 h

def specSkip (F : List AVal → AMem → Out AVal) (args : List AVal) (m : AMem) : Out AVal :=
  match args with
  | [.str s, .int .i64 (.ofNat a), .bool lines] => match geT s a && Nat.blt (lenR s) 1073741824 with
    | true => match skipN lines 2000 (dropT s a) a with
      | some e => .ok (.int .i64 (.ofNat e)) m
      | none => F args m
    | false => F args m
  | _ => F args m

theorem specSkip_ok {T : Tab} {F : List AVal → AMem → Out AVal} (hF : CallOk T Tryz.prog 30 F) (hent : ∀ args w, (callFunc 30 args).run Tryz.prog w = .ok (.enter 30 args) w) : CallOk T Tryz.prog 30 (specSkip F) := by
  intro r w m args args' hg hm ha hgood
  unfold specSkip at hgood ⊢
  simp only [geT_eq, lenR_eq, dropT_eq] at hgood ⊢
  split at hgood
  · rename_i s a lines
    split at hgood
    · rename_i hc
      rw [Bool.and_eq_true] at hc
      have h1 := Nat.le_of_ble_eq_true hc.1
      have h2 : s.length < 1073741824 := Nat.le_of_ble_eq_true hc.2
      split at hgood
      · rename_i e he
        obtain ⟨x', t', e1, e2, e3⟩ := ha.cons_inv
        obtain ⟨y', t2, e4, e5, e6⟩ := e3.cons_inv
        obtain ⟨z', t3, e7, e8, e9⟩ := e6.cons_inv
        obtain ⟨b1, hb1, hd1⟩ := e2.str_inv
        rw [e9.nil_inv] at e7
        rw [e7, e8.bool_inv] at e4
        rw [e4, e5.int_inv, hb1] at e1
        have : args' = #[.string b1, .int .i64 (.ofNat a), .bool lines] := Array.toList_inj.1 e1
        subst this
        have hlen : b1.size = s.length := size_cons hd1
        have hlaw := skip_law (s := b1) (lines := lines) (by omega) 2000 a e (by omega) (by rw [hd1]; exact he)
        have hf : tlex_Skip.f (3 * 2000) b1 (.ofNat a) lines = some (e : Int) := by
          unfold tlex_Skip.f tlex_clamp.f
          simp only [Option.bind_some]
          have hclamp : mn (mx (Int.ofNat a) 0) (b1.size : Int) = (a : Int) := by
            have ha0 : (Int.ofNat a) = (a : Int) := rfl
            rw [ha0]
            unfold mx mn
            rw [if_neg (by omega), if_neg (by omega)]
          rw [hclamp]
          exact hlaw
        refine .inr ⟨hent _ _, (tlex_Skip.calls _ b1 _ lines _ w hf).mono fun en w' hp => ?_⟩
        obtain ⟨rfl, hbel⟩ := hp
        exact ⟨r, _, rfl, .int _ _, Step.below hm hbel⟩
      · exact hF r w m _ args' hg hm ha hgood
    · exact hF r w m _ args' hg hm ha hgood
  · exact hF r w m args args' hg hm ha hgood
end
end Ev
end Go.Proofs.YtfddpaljmihinaaGreatDoor
