/-
  A walk printed by the kit's printer, with functions that are given, and turned by programs of this session. (Conditions: what each theorem asks.)
-/
import Derived.Test.YtfddpaljmihinaaGreatDoorPStampsx9
-- PRINTED by print.py (a twelfth state) out of the translation, and cut by a program of this session's. Not trusted: Lean checks it.
namespace Go.Proofs.YtfddpaljmihinaaGreatDoor.PStamps
open Go.RowKit Go.Proofs.YtfddpaljmihinaaGreatDoorW.PrintWords Go.Proofs.YtfddpaljmihinaaGreatDoorW.PrintLast Go.Proofs.YtfddpaljmihinaaGreatDoorW.PrintMore
attribute [local go_sem] max2_int min2_int max_two min_two max_three min_three max_four min_four   -- for this text's walks alone

set_option linter.unusedVariables false
set_option linter.unusedSimpArgs false

set_option maxHeartbeats 8000000 in
set_option maxRecDepth 100000 in
theorem dragomanlaw10_TlexStamps.part5 {k kj9 kj43 kj57 kj59 : Nat} {a0 a1 a2 a3 a4 a5 a6 : Int} {r : Bool} {w wc : World} [Go.Proofs.YtfddpaljmihinaaGreatDoor.Cut.GoodW w] {x15 x16 : ByteArray} {x17_57 : Int} {x18_59 : Bool} {u19 u24 u25 u26 u27 u28 u29 u30 u31 u32 u33 u34 u35 u36 u37 u38 u39 u40 u41 u42 u43 u44 u45 u46 u47 u48 u49 u50 u51 u52 u53 u54 u55 u56 u57 u58 u59 u60 u61 u62 u63 u64 u65 u66 u67 u68 u69 u70 u71 u72 u73 u74 u75 u76 u77 u78 u79 u80 u81 u82 u83 u84 u85 u86 u87 u88 u89 u90 u91 u92 u93 u94 u95 u96 u97 u98 u99 u100 u101 u102 u103 u104 u105 u106 u107 u108 u109 u110 u111 u112 u113 u114 u115 u116 u117 u118 u119 u120 u121 u122 u123 u124 u125 u126 u127 u128 u129 u130 u131 u132 u133 u134 u135 u136 u137 u138 u139 u140 u141 u142 u143 u144 u145 u146 u147 u148 u149 u150 u151 u152 u153 u154 u155 u156 u157 u158 u159 u160 u161 u162 u163 u164 u165 u166 u167 u168 u169 u170 u171 u172 u173 u174 u175 u176 u177 u178 u179 u180 u181 u182 u183 u184 u185 u186 u187 u188 u189 u190 u191 u192 u193 u194 u195 u196 u197 u198 u199 u200 u201 u202 u203 u204 u205 u206 u207 u208 u209 u210 u211 u212 u213 u214 u215 u216 u217 u218 u219 u220 u221 u222 u223 u224 u225 u226 u227 u228 u229 : Value} (HJ9 : Aside0 (kj9 + 1 ≤ k)) (HJ43 : Aside0 (kj43 + 1 ≤ kj9)) (HJ57 : Aside0 (kj57 + 1 ≤ kj43)) (HJ59 : Aside0 (kj59 + 1 ≤ kj57)) (hcut : ∃ (kq : Nat) (x19_61 : Bool), u19 = .bool x19_61 ∧ Aside0 (dragomanlaw10_TlexStamps.j4 kq a6 x15 x16 x18_59 x19_61 = some r) ∧ Aside0 (kq ≤ kj59) ∧ Aside0 (Below w.heap.size w wc)) :
  Code.wp Tryz.prog (code5 Tryz.f5) (bodyPost Tryz.prog Tryz.f5 fun e w' => e = .returned (.bool r) ∧ Below w.heap.size w w') ⟨List.toArray (.int .i64 a0 :: .int .i64 a1 :: .int .i64 a2 :: .int .i64 a3 :: .int .i64 a4 :: .int .i64 a5 :: .int .i64 a6 :: undef :: undef :: undef :: undef :: undef :: undef :: undef :: .bool false :: .string x15 :: .string x16 :: .int .i64 x17_57 :: .bool x18_59 :: u19 :: undef :: undef :: undef :: undef :: u24 :: u25 :: u26 :: u27 :: u28 :: u29 :: u30 :: u31 :: u32 :: u33 :: u34 :: u35 :: u36 :: u37 :: u38 :: u39 :: u40 :: u41 :: u42 :: u43 :: u44 :: u45 :: u46 :: u47 :: u48 :: u49 :: u50 :: u51 :: u52 :: u53 :: u54 :: u55 :: u56 :: u57 :: u58 :: u59 :: u60 :: u61 :: u62 :: u63 :: u64 :: u65 :: u66 :: u67 :: u68 :: u69 :: u70 :: u71 :: u72 :: u73 :: u74 :: u75 :: u76 :: u77 :: u78 :: u79 :: u80 :: u81 :: u82 :: u83 :: u84 :: u85 :: u86 :: u87 :: u88 :: u89 :: u90 :: u91 :: u92 :: u93 :: u94 :: u95 :: u96 :: u97 :: u98 :: u99 :: u100 :: u101 :: u102 :: u103 :: u104 :: u105 :: u106 :: u107 :: u108 :: u109 :: u110 :: u111 :: u112 :: u113 :: u114 :: u115 :: u116 :: u117 :: u118 :: u119 :: u120 :: u121 :: u122 :: u123 :: u124 :: u125 :: u126 :: u127 :: u128 :: u129 :: u130 :: u131 :: u132 :: u133 :: u134 :: u135 :: u136 :: u137 :: u138 :: u139 :: u140 :: u141 :: u142 :: u143 :: u144 :: u145 :: u146 :: u147 :: u148 :: u149 :: u150 :: u151 :: u152 :: u153 :: u154 :: u155 :: u156 :: u157 :: u158 :: u159 :: u160 :: u161 :: u162 :: u163 :: u164 :: u165 :: u166 :: u167 :: u168 :: u169 :: u170 :: u171 :: u172 :: u173 :: u174 :: u175 :: u176 :: u177 :: u178 :: u179 :: u180 :: u181 :: u182 :: u183 :: u184 :: u185 :: u186 :: u187 :: u188 :: u189 :: u190 :: u191 :: u192 :: u193 :: u194 :: u195 :: u196 :: u197 :: u198 :: u199 :: u200 :: u201 :: u202 :: u203 :: u204 :: u205 :: u206 :: u207 :: u208 :: u209 :: u210 :: u211 :: u212 :: u213 :: u214 :: u215 :: u216 :: u217 :: u218 :: u219 :: u220 :: u221 :: u222 :: u223 :: u224 :: u225 :: u226 :: u227 :: u228 :: u229 :: []), []⟩ wc := by
 have hu27 := Tryz.underlying27
 conv => arg 2; whnf
 try clear c1
 try clear c2
 try clear p2
 try clear q2
 try clear hx2
 try clear c3
 try clear c4
 try clear c5
 try clear c6
 try clear p6
 try clear c9
 try clear c12
 try clear c12b0
 try clear c13
 try clear c13b0
 try clear c14
 try clear c14b0
 try clear c15
 try clear c15b0
 try clear c16
 try clear c16b0
 try clear c17
 try clear c17b0
 try clear c18
 try clear c18b0
 try clear c19
 try clear c19b0
 try clear c20
 try clear c20b0
 try clear c21
 try clear c21b0
 try clear p21
 try clear q21
 try clear hx21
 try clear c22
 try clear c22b0
 try clear c23
 try clear c23b0
 try clear c24
 try clear c24b0
 try clear c25
 try clear c28
 try clear c28b0
 try clear c28b1
 try clear c28b2
 try clear c29
 try clear c29b0
 try clear c29b1
 try clear c29b2
 try clear c31
 try clear c31b0
 try clear c31b1
 try clear c31b2
 try clear c32
 try clear c32b0
 try clear c32b1
 try clear c32b2
 try clear c34
 try clear c34b0
 try clear c34b1
 try clear c34b2
 try clear c36
 try clear c36b0
 try clear c36b1
 try clear c36b2
 try clear c38
 try clear c38b0
 try clear c38b1
 try clear c38b2
 try clear c39
 try clear c39b0
 try clear c39b1
 try clear c39b2
 try clear c41
 try clear c41b0
 try clear c41b1
 try clear c41b2
 try clear c42
 try clear c42b0
 try clear c43
 try clear c43b0
 try clear c55
 try clear c55b0
 try clear c55b1
 try clear c56
 try clear c56b0
 try clear c56b1
 try clear c57
 try clear c57b0
 try clear c57b1
 try clear c59
 try clear c61
 try clear c61b0
 try clear c63
 try clear c63b0
 try clear c64
 try clear c64b0
 try clear p64
 try clear hx213_0
 try clear p2
 try clear p21
 try clear p213
 try clear p6
 try clear q2
 try clear q21
 try clear q213
 obtain ⟨kq, x19_61, rfl, HA, HJ61, HB⟩ := hcut
 cases kq with
 | zero => exact absurd HA.out (by simp [dragomanlaw10_TlexStamps.j4])
 | succ kj61 =>
  have H := HA.out
  clear HA
  simp only [dragomanlaw10_TlexStamps.j4] at H
  have HC65 := Aside0.mk H
  clear H
  go_upto_region 12 with (fail)
  go_cut [192] (fun v192 wc => ∃ (kq : Nat) (x192_64 : Bool), v192 = .bool x192_64 ∧ Aside0 (dragomanlaw10_TlexStamps.j5 kq x15 x16 x18_59 x19_61 x192_64 = some r) ∧ Aside0 (kq ≤ kj61) ∧ Aside0 (Below w.heap.size w wc))
  case first =>
   have H := HC65.out
   clear HC65
   replace H := Option.bind_eq_some_iff.mp H
   obtain ⟨t214, A660, H⟩ := H
   replace H : (if (t214 != x18_59) = true then (dragomanlaw10_TlexStamps.j5 kj61 x15 x16 x18_59 x19_61 true) else ((tlex_Stamp.f kj61 x16).bind fun t215 => (if (t215 != x19_61) = true then (dragomanlaw10_TlexStamps.j5 kj61 x15 x16 x18_59 x19_61 true) else (if x15.size + 1 ≤ 9223372036854775807 then (if (x15 ++ (⟨#[84]⟩ : ByteArray)).size + x16.size ≤ 9223372036854775807 then (if ((x15 ++ (⟨#[84]⟩ : ByteArray)) ++ x16).size + 1 ≤ 9223372036854775807 then ((tlex_Stamp.f kj61 (((x15 ++ (⟨#[84]⟩ : ByteArray)) ++ x16) ++ (⟨#[90]⟩ : ByteArray))).bind fun t216 => (if x18_59 = true then (if (t216 != x19_61) = true then (dragomanlaw10_TlexStamps.j5 kj61 x15 x16 x18_59 x19_61 true) else (if x16.size + 2 ≤ 9223372036854775807 then ((tlex_Stamp.f kj61 (x16 ++ (⟨#[46, 53]⟩ : ByteArray))).bind fun t217 => (if (t217 != x19_61) = true then (dragomanlaw10_TlexStamps.j5 kj61 x15 x16 x18_59 x19_61 true) else (if (x15 ++ (⟨#[32]⟩ : ByteArray)).size + x16.size ≤ 9223372036854775807 then (if ((x15 ++ (⟨#[32]⟩ : ByteArray)) ++ x16).size + 1 ≤ 9223372036854775807 then ((dragomanlaw10_two.f a6).bind fun t218 => (if (((x15 ++ (⟨#[32]⟩ : ByteArray)) ++ x16) ++ (⟨#[43]⟩ : ByteArray)).size + t218.size ≤ 9223372036854775807 then (if ((((x15 ++ (⟨#[32]⟩ : ByteArray)) ++ x16) ++ (⟨#[43]⟩ : ByteArray)) ++ t218).size + 3 ≤ 9223372036854775807 then ((tlex_Stamp.f kj61 (((((x15 ++ (⟨#[32]⟩ : ByteArray)) ++ x16) ++ (⟨#[43]⟩ : ByteArray)) ++ t218) ++ (⟨#[58, 51, 48]⟩ : ByteArray))).bind fun t219 => (if x19_61 = true then (dragomanlaw10_TlexStamps.j5 kj61 x15 x16 x18_59 x19_61 (t219 != (decide (a6 < 24)))) else (dragomanlaw10_TlexStamps.j5 kj61 x15 x16 x18_59 x19_61 (t219 != false)))) else (none)) else (none))) else (none)) else (none)))) else (none))) else (if (t216 != false) = true then (dragomanlaw10_TlexStamps.j5 kj61 x15 x16 x18_59 x19_61 true) else (if x16.size + 2 ≤ 9223372036854775807 then ((tlex_Stamp.f kj61 (x16 ++ (⟨#[46, 53]⟩ : ByteArray))).bind fun t220 => (if (t220 != x19_61) = true then (dragomanlaw10_TlexStamps.j5 kj61 x15 x16 x18_59 x19_61 true) else (if (x15 ++ (⟨#[32]⟩ : ByteArray)).size + x16.size ≤ 9223372036854775807 then (if ((x15 ++ (⟨#[32]⟩ : ByteArray)) ++ x16).size + 1 ≤ 9223372036854775807 then ((dragomanlaw10_two.f a6).bind fun t221 => (if (((x15 ++ (⟨#[32]⟩ : ByteArray)) ++ x16) ++ (⟨#[43]⟩ : ByteArray)).size + t221.size ≤ 9223372036854775807 then (if ((((x15 ++ (⟨#[32]⟩ : ByteArray)) ++ x16) ++ (⟨#[43]⟩ : ByteArray)) ++ t221).size + 3 ≤ 9223372036854775807 then ((tlex_Stamp.f kj61 (((((x15 ++ (⟨#[32]⟩ : ByteArray)) ++ x16) ++ (⟨#[43]⟩ : ByteArray)) ++ t221) ++ (⟨#[58, 51, 48]⟩ : ByteArray))).bind fun t222 => (dragomanlaw10_TlexStamps.j5 kj61 x15 x16 x18_59 x19_61 (t222 != false))) else (none)) else (none))) else (none)) else (none)))) else (none))))) else (none)) else (none)) else (none))))) = some r := H
   have A66 := Aside0.mk A660
   clear A660
   by_cases c67 : (t214 != x18_59) = true
   ·rw [if_pos c67] at H
    have c67b0 : (t214 != x18_59) = true := c67
    (try (have c67b1 : decide (t214 = x18_59) = false := by simpa using c67))
    (try (have c67b2 : (t214 == x18_59) = false := by simpa using c67))
    (try (have c67b3 : ¬ (t214 = x18_59) := by simpa using c67))
    clear c67
    (first | rw [c67b0] | (simp only [i64_w, i32_w]; rw [c67b0]) | skip)
    have H' := Aside0.mk H
    clear H
    go_wp2_with (first | ((with_reducible refine gate_callee (f := 17) rfl ?_); refine goesL_ (some 143) rfl rfl Tryz.func17 (by kernel_rfl) rfl #[.string x15] rfl (by (try simp only [List.map_toArray, List.map_cons, List.map_nil]); first | done | rfl | (simp only [List.length_drop, List.length_take]; rfl)) ?_; (with_reducible refine (tlex_Stamp.calls kj61 x15 t214 _ A66.out).mono ?_); rintro e w68 ⟨rfl, hb⟩; refine ⟨_, rfl, ?_⟩; have n0_ := Aside0.mk (below_step (by repeat (first | (with_reducible first | exact HB.out | apply below_alloc | apply pw_below_drewN | apply below_drew1) | exact HB.out)) hb); clear HB; have HB := n0_; clear n0_; (try clear hb); (try clear hb2); (try clear hk); (try clear hi)))
    go_meet
    case rel => exact ⟨_, (true), (by first | rfl | (simp; done) | (simp [*]; done)), H', ⟨by have := HJ9.out; have := HJ43.out; have := HJ57.out; have := HJ59.out; have := HJ61.out; first | omega | exact Nat.le_refl _⟩, ⟨by repeat (first | (with_reducible first | exact HB.out | apply below_alloc | apply pw_below_drewN | apply below_drew1) | exact HB.out)⟩⟩
   ·rw [if_neg c67] at H
    have c67b0 : (t214 != x18_59) = false := by simpa using c67
    (try (have c67b1 : decide (t214 = x18_59) = true := by simpa using c67))
    (try (have c67b2 : (t214 == x18_59) = true := by simpa using c67))
    clear c67
    (first | rw [c67b0] | (simp only [i64_w, i32_w]; rw [c67b0]) | skip)
    replace H := Option.bind_eq_some_iff.mp H
    obtain ⟨t215, A690, H⟩ := H
    replace H : (if (t215 != x19_61) = true then (dragomanlaw10_TlexStamps.j5 kj61 x15 x16 x18_59 x19_61 true) else (if x15.size + 1 ≤ 9223372036854775807 then (if (x15 ++ (⟨#[84]⟩ : ByteArray)).size + x16.size ≤ 9223372036854775807 then (if ((x15 ++ (⟨#[84]⟩ : ByteArray)) ++ x16).size + 1 ≤ 9223372036854775807 then ((tlex_Stamp.f kj61 (((x15 ++ (⟨#[84]⟩ : ByteArray)) ++ x16) ++ (⟨#[90]⟩ : ByteArray))).bind fun t216 => (if x18_59 = true then (if (t216 != x19_61) = true then (dragomanlaw10_TlexStamps.j5 kj61 x15 x16 x18_59 x19_61 true) else (if x16.size + 2 ≤ 9223372036854775807 then ((tlex_Stamp.f kj61 (x16 ++ (⟨#[46, 53]⟩ : ByteArray))).bind fun t217 => (if (t217 != x19_61) = true then (dragomanlaw10_TlexStamps.j5 kj61 x15 x16 x18_59 x19_61 true) else (if (x15 ++ (⟨#[32]⟩ : ByteArray)).size + x16.size ≤ 9223372036854775807 then (if ((x15 ++ (⟨#[32]⟩ : ByteArray)) ++ x16).size + 1 ≤ 9223372036854775807 then ((dragomanlaw10_two.f a6).bind fun t218 => (if (((x15 ++ (⟨#[32]⟩ : ByteArray)) ++ x16) ++ (⟨#[43]⟩ : ByteArray)).size + t218.size ≤ 9223372036854775807 then (if ((((x15 ++ (⟨#[32]⟩ : ByteArray)) ++ x16) ++ (⟨#[43]⟩ : ByteArray)) ++ t218).size + 3 ≤ 9223372036854775807 then ((tlex_Stamp.f kj61 (((((x15 ++ (⟨#[32]⟩ : ByteArray)) ++ x16) ++ (⟨#[43]⟩ : ByteArray)) ++ t218) ++ (⟨#[58, 51, 48]⟩ : ByteArray))).bind fun t219 => (if x19_61 = true then (dragomanlaw10_TlexStamps.j5 kj61 x15 x16 x18_59 x19_61 (t219 != (decide (a6 < 24)))) else (dragomanlaw10_TlexStamps.j5 kj61 x15 x16 x18_59 x19_61 (t219 != false)))) else (none)) else (none))) else (none)) else (none)))) else (none))) else (if (t216 != false) = true then (dragomanlaw10_TlexStamps.j5 kj61 x15 x16 x18_59 x19_61 true) else (if x16.size + 2 ≤ 9223372036854775807 then ((tlex_Stamp.f kj61 (x16 ++ (⟨#[46, 53]⟩ : ByteArray))).bind fun t220 => (if (t220 != x19_61) = true then (dragomanlaw10_TlexStamps.j5 kj61 x15 x16 x18_59 x19_61 true) else (if (x15 ++ (⟨#[32]⟩ : ByteArray)).size + x16.size ≤ 9223372036854775807 then (if ((x15 ++ (⟨#[32]⟩ : ByteArray)) ++ x16).size + 1 ≤ 9223372036854775807 then ((dragomanlaw10_two.f a6).bind fun t221 => (if (((x15 ++ (⟨#[32]⟩ : ByteArray)) ++ x16) ++ (⟨#[43]⟩ : ByteArray)).size + t221.size ≤ 9223372036854775807 then (if ((((x15 ++ (⟨#[32]⟩ : ByteArray)) ++ x16) ++ (⟨#[43]⟩ : ByteArray)) ++ t221).size + 3 ≤ 9223372036854775807 then ((tlex_Stamp.f kj61 (((((x15 ++ (⟨#[32]⟩ : ByteArray)) ++ x16) ++ (⟨#[43]⟩ : ByteArray)) ++ t221) ++ (⟨#[58, 51, 48]⟩ : ByteArray))).bind fun t222 => (dragomanlaw10_TlexStamps.j5 kj61 x15 x16 x18_59 x19_61 (t222 != false))) else (none)) else (none))) else (none)) else (none)))) else (none))))) else (none)) else (none)) else (none))) = some r := H
    have A69 := Aside0.mk A690
    clear A690
    by_cases c70 : (t215 != x19_61) = true
    ·rw [if_pos c70] at H
     have c70b0 : (t215 != x19_61) = true := c70
     (try (have c70b1 : decide (t215 = x19_61) = false := by simpa using c70))
     (try (have c70b2 : (t215 == x19_61) = false := by simpa using c70))
     (try (have c70b3 : ¬ (t215 = x19_61) := by simpa using c70))
     clear c70
     have H' := Aside0.mk H
     clear H
     go_wp2_with (first | ((with_reducible refine gate_callee (f := 17) rfl ?_); refine goesL_ (some 143) rfl rfl Tryz.func17 (by kernel_rfl) rfl #[.string x15] rfl (by (try simp only [List.map_toArray, List.map_cons, List.map_nil]); first | done | rfl | (simp only [List.length_drop, List.length_take]; rfl)) ?_; (with_reducible refine (tlex_Stamp.calls kj61 x15 t214 _ A66.out).mono ?_); rintro e w71 ⟨rfl, hb⟩; refine ⟨_, rfl, ?_⟩; have n0_ := Aside0.mk (below_step (by repeat (first | (with_reducible first | exact HB.out | apply below_alloc | apply pw_below_drewN | apply below_drew1) | exact HB.out)) hb); clear HB; have HB := n0_; clear n0_; (try clear hb); (try clear hb2); (try clear hk); (try clear hi)) | (go_at_call 17; (with_reducible refine (tlex_Stamp.calls kj61 x16 t215 _ A69.out).mono ?_); rintro e w72 ⟨rfl, hb⟩; have n0_ := Aside0.mk (below_step (by repeat (first | (with_reducible first | exact HB.out | apply below_alloc | apply pw_below_drewN | apply below_drew1) | exact HB.out)) hb); clear HB; have HB := n0_; clear n0_; (try clear hb); (try clear hb2); (try clear hk); (try clear hi)))
     go_meet
     case rel => exact ⟨_, (true), (by first | rfl | (simp; done) | (simp [*]; done)), H', ⟨by have := HJ9.out; have := HJ43.out; have := HJ57.out; have := HJ59.out; have := HJ61.out; first | omega | exact Nat.le_refl _⟩, ⟨by repeat (first | (with_reducible first | exact HB.out | apply below_alloc | apply pw_below_drewN | apply below_drew1) | exact HB.out)⟩⟩
    ·rw [if_neg c70] at H
     have c70b0 : (t215 != x19_61) = false := by simpa using c70
     (try (have c70b1 : decide (t215 = x19_61) = true := by simpa using c70))
     (try (have c70b2 : (t215 == x19_61) = true := by simpa using c70))
     clear c70
     by_cases c73 : x15.size + 1 ≤ 9223372036854775807
     ·rw [if_pos c73] at H
      have c73b0 := eq_true c73
      have c73b1 : decide (x15.size + 1 ≤ 9223372036854775807) = true := decide_eq_true c73
      try have c73b2 : (9223372036854775807 < x15.size + 1) = False := eq_false (Nat.not_lt.2 c73)
      try (have c73b3q := c73b2; simp only [ByteArray.size_append, sz45, sz58, sz84, sz90, sz32, sz43, sz46_53, sz58_51_48, sz32_35_32_120] at c73b3q)
      by_cases c74 : (x15 ++ (⟨#[84]⟩ : ByteArray)).size + x16.size ≤ 9223372036854775807
      ·rw [if_pos c74] at H
       have c74b0 := eq_true c74
       have c74b1 : decide ((x15 ++ (⟨#[84]⟩ : ByteArray)).size + x16.size ≤ 9223372036854775807) = true := decide_eq_true c74
       try have c74b2 : (9223372036854775807 < (x15 ++ (⟨#[84]⟩ : ByteArray)).size + x16.size) = False := eq_false (Nat.not_lt.2 c74)
       try (have c74b3q := c74b2; simp only [ByteArray.size_append, sz45, sz58, sz84, sz90, sz32, sz43, sz46_53, sz58_51_48, sz32_35_32_120] at c74b3q)
       by_cases c75 : ((x15 ++ (⟨#[84]⟩ : ByteArray)) ++ x16).size + 1 ≤ 9223372036854775807
       ·rw [if_pos c75] at H
        have c75b0 := eq_true c75
        have c75b1 : decide (((x15 ++ (⟨#[84]⟩ : ByteArray)) ++ x16).size + 1 ≤ 9223372036854775807) = true := decide_eq_true c75
        try have c75b2 : (9223372036854775807 < ((x15 ++ (⟨#[84]⟩ : ByteArray)) ++ x16).size + 1) = False := eq_false (Nat.not_lt.2 c75)
        try (have c75b3q := c75b2; simp only [ByteArray.size_append, sz45, sz58, sz84, sz90, sz32, sz43, sz46_53, sz58_51_48, sz32_35_32_120] at c75b3q)
        replace H := Option.bind_eq_some_iff.mp H
        obtain ⟨t216, A760, H⟩ := H
        replace H : (if x18_59 = true then (if (t216 != x19_61) = true then (dragomanlaw10_TlexStamps.j5 kj61 x15 x16 x18_59 x19_61 true) else (if x16.size + 2 ≤ 9223372036854775807 then ((tlex_Stamp.f kj61 (x16 ++ (⟨#[46, 53]⟩ : ByteArray))).bind fun t217 => (if (t217 != x19_61) = true then (dragomanlaw10_TlexStamps.j5 kj61 x15 x16 x18_59 x19_61 true) else (if (x15 ++ (⟨#[32]⟩ : ByteArray)).size + x16.size ≤ 9223372036854775807 then (if ((x15 ++ (⟨#[32]⟩ : ByteArray)) ++ x16).size + 1 ≤ 9223372036854775807 then ((dragomanlaw10_two.f a6).bind fun t218 => (if (((x15 ++ (⟨#[32]⟩ : ByteArray)) ++ x16) ++ (⟨#[43]⟩ : ByteArray)).size + t218.size ≤ 9223372036854775807 then (if ((((x15 ++ (⟨#[32]⟩ : ByteArray)) ++ x16) ++ (⟨#[43]⟩ : ByteArray)) ++ t218).size + 3 ≤ 9223372036854775807 then ((tlex_Stamp.f kj61 (((((x15 ++ (⟨#[32]⟩ : ByteArray)) ++ x16) ++ (⟨#[43]⟩ : ByteArray)) ++ t218) ++ (⟨#[58, 51, 48]⟩ : ByteArray))).bind fun t219 => (if x19_61 = true then (dragomanlaw10_TlexStamps.j5 kj61 x15 x16 x18_59 x19_61 (t219 != (decide (a6 < 24)))) else (dragomanlaw10_TlexStamps.j5 kj61 x15 x16 x18_59 x19_61 (t219 != false)))) else (none)) else (none))) else (none)) else (none)))) else (none))) else (if (t216 != false) = true then (dragomanlaw10_TlexStamps.j5 kj61 x15 x16 x18_59 x19_61 true) else (if x16.size + 2 ≤ 9223372036854775807 then ((tlex_Stamp.f kj61 (x16 ++ (⟨#[46, 53]⟩ : ByteArray))).bind fun t220 => (if (t220 != x19_61) = true then (dragomanlaw10_TlexStamps.j5 kj61 x15 x16 x18_59 x19_61 true) else (if (x15 ++ (⟨#[32]⟩ : ByteArray)).size + x16.size ≤ 9223372036854775807 then (if ((x15 ++ (⟨#[32]⟩ : ByteArray)) ++ x16).size + 1 ≤ 9223372036854775807 then ((dragomanlaw10_two.f a6).bind fun t221 => (if (((x15 ++ (⟨#[32]⟩ : ByteArray)) ++ x16) ++ (⟨#[43]⟩ : ByteArray)).size + t221.size ≤ 9223372036854775807 then (if ((((x15 ++ (⟨#[32]⟩ : ByteArray)) ++ x16) ++ (⟨#[43]⟩ : ByteArray)) ++ t221).size + 3 ≤ 9223372036854775807 then ((tlex_Stamp.f kj61 (((((x15 ++ (⟨#[32]⟩ : ByteArray)) ++ x16) ++ (⟨#[43]⟩ : ByteArray)) ++ t221) ++ (⟨#[58, 51, 48]⟩ : ByteArray))).bind fun t222 => (dragomanlaw10_TlexStamps.j5 kj61 x15 x16 x18_59 x19_61 (t222 != false))) else (none)) else (none))) else (none)) else (none)))) else (none)))) = some r := H
        have A76 := Aside0.mk A760
        clear A760
        by_cases c77 : x18_59 = true
        ·subst c77
         have H1 : (if (t216 != x19_61) = true then (dragomanlaw10_TlexStamps.j5 kj61 x15 x16 true x19_61 true) else (if x16.size + 2 ≤ 9223372036854775807 then ((tlex_Stamp.f kj61 (x16 ++ (⟨#[46, 53]⟩ : ByteArray))).bind fun t217 => (if (t217 != x19_61) = true then (dragomanlaw10_TlexStamps.j5 kj61 x15 x16 true x19_61 true) else (if (x15 ++ (⟨#[32]⟩ : ByteArray)).size + x16.size ≤ 9223372036854775807 then (if ((x15 ++ (⟨#[32]⟩ : ByteArray)) ++ x16).size + 1 ≤ 9223372036854775807 then ((dragomanlaw10_two.f a6).bind fun t218 => (if (((x15 ++ (⟨#[32]⟩ : ByteArray)) ++ x16) ++ (⟨#[43]⟩ : ByteArray)).size + t218.size ≤ 9223372036854775807 then (if ((((x15 ++ (⟨#[32]⟩ : ByteArray)) ++ x16) ++ (⟨#[43]⟩ : ByteArray)) ++ t218).size + 3 ≤ 9223372036854775807 then ((tlex_Stamp.f kj61 (((((x15 ++ (⟨#[32]⟩ : ByteArray)) ++ x16) ++ (⟨#[43]⟩ : ByteArray)) ++ t218) ++ (⟨#[58, 51, 48]⟩ : ByteArray))).bind fun t219 => (if x19_61 = true then (dragomanlaw10_TlexStamps.j5 kj61 x15 x16 true x19_61 (t219 != (decide (a6 < 24)))) else (dragomanlaw10_TlexStamps.j5 kj61 x15 x16 true x19_61 (t219 != false)))) else (none)) else (none))) else (none)) else (none)))) else (none))) = some r := by rw [if_pos rfl] at H; exact H
         clear H
         have H := H1
         clear H1
         by_cases c78 : (t216 != x19_61) = true
         ·rw [if_pos c78] at H
          have c78b0 : (t216 != x19_61) = true := c78
          (try (have c78b1 : decide (t216 = x19_61) = false := by simpa using c78))
          (try (have c78b2 : (t216 == x19_61) = false := by simpa using c78))
          (try (have c78b3 : ¬ (t216 = x19_61) := by simpa using c78))
          clear c78
          have H' := Aside0.mk H
          clear H
          go_wp2_with (first | ((with_reducible refine gate_callee (f := 17) rfl ?_); refine goesL_ (some 143) rfl rfl Tryz.func17 (by kernel_rfl) rfl #[.string x15] rfl (by (try simp only [List.map_toArray, List.map_cons, List.map_nil]); first | done | rfl | (simp only [List.length_drop, List.length_take]; rfl)) ?_; (with_reducible refine (tlex_Stamp.calls kj61 x15 t214 _ A66.out).mono ?_); rintro e w79 ⟨rfl, hb⟩; refine ⟨_, rfl, ?_⟩; have n0_ := Aside0.mk (below_step (by repeat (first | (with_reducible first | exact HB.out | apply below_alloc | apply pw_below_drewN | apply below_drew1) | exact HB.out)) hb); clear HB; have HB := n0_; clear n0_; (try clear hb); (try clear hb2); (try clear hk); (try clear hi)) | (go_at_call 17; (with_reducible refine (tlex_Stamp.calls kj61 x16 t215 _ A69.out).mono ?_); rintro e w80 ⟨rfl, hb⟩; have n0_ := Aside0.mk (below_step (by repeat (first | (with_reducible first | exact HB.out | apply below_alloc | apply pw_below_drewN | apply below_drew1) | exact HB.out)) hb); clear HB; have HB := n0_; clear n0_; (try clear hb); (try clear hb2); (try clear hk); (try clear hi)) | (go_at_call 17; (with_reducible refine (tlex_Stamp.calls kj61 (((x15 ++ (⟨#[84]⟩ : ByteArray)) ++ x16) ++ (⟨#[90]⟩ : ByteArray)) t216 _ A76.out).mono ?_); rintro e w81 ⟨rfl, hb⟩; have n0_ := Aside0.mk (below_step (by repeat (first | (with_reducible first | exact HB.out | apply below_alloc | apply pw_below_drewN | apply below_drew1) | exact HB.out)) hb); clear HB; have HB := n0_; clear n0_; (try clear hb); (try clear hb2); (try clear hk); (try clear hi)))
          go_meet
          case rel => exact ⟨_, (true), (by first | rfl | (simp; done) | (simp [*]; done)), H', ⟨by have := HJ9.out; have := HJ43.out; have := HJ57.out; have := HJ59.out; have := HJ61.out; first | omega | exact Nat.le_refl _⟩, ⟨by repeat (first | (with_reducible first | exact HB.out | apply below_alloc | apply pw_below_drewN | apply below_drew1) | exact HB.out)⟩⟩
         ·rw [if_neg c78] at H
          have c78b0 : (t216 != x19_61) = false := by simpa using c78
          (try (have c78b1 : decide (t216 = x19_61) = true := by simpa using c78))
          (try (have c78b2 : (t216 == x19_61) = true := by simpa using c78))
          clear c78
          by_cases c82 : x16.size + 2 ≤ 9223372036854775807
          ·rw [if_pos c82] at H
           have c82b0 := eq_true c82
           have c82b1 : decide (x16.size + 2 ≤ 9223372036854775807) = true := decide_eq_true c82
           try have c82b2 : (9223372036854775807 < x16.size + 2) = False := eq_false (Nat.not_lt.2 c82)
           try (have c82b3q := c82b2; simp only [ByteArray.size_append, sz45, sz58, sz84, sz90, sz32, sz43, sz46_53, sz58_51_48, sz32_35_32_120] at c82b3q)
           replace H := Option.bind_eq_some_iff.mp H
           obtain ⟨t217, A830, H⟩ := H
           replace H : (if (t217 != x19_61) = true then (dragomanlaw10_TlexStamps.j5 kj61 x15 x16 true x19_61 true) else (if (x15 ++ (⟨#[32]⟩ : ByteArray)).size + x16.size ≤ 9223372036854775807 then (if ((x15 ++ (⟨#[32]⟩ : ByteArray)) ++ x16).size + 1 ≤ 9223372036854775807 then ((dragomanlaw10_two.f a6).bind fun t218 => (if (((x15 ++ (⟨#[32]⟩ : ByteArray)) ++ x16) ++ (⟨#[43]⟩ : ByteArray)).size + t218.size ≤ 9223372036854775807 then (if ((((x15 ++ (⟨#[32]⟩ : ByteArray)) ++ x16) ++ (⟨#[43]⟩ : ByteArray)) ++ t218).size + 3 ≤ 9223372036854775807 then ((tlex_Stamp.f kj61 (((((x15 ++ (⟨#[32]⟩ : ByteArray)) ++ x16) ++ (⟨#[43]⟩ : ByteArray)) ++ t218) ++ (⟨#[58, 51, 48]⟩ : ByteArray))).bind fun t219 => (if x19_61 = true then (dragomanlaw10_TlexStamps.j5 kj61 x15 x16 true x19_61 (t219 != (decide (a6 < 24)))) else (dragomanlaw10_TlexStamps.j5 kj61 x15 x16 true x19_61 (t219 != false)))) else (none)) else (none))) else (none)) else (none))) = some r := H
           have A83 := Aside0.mk A830
           clear A830
           by_cases c84 : (t217 != x19_61) = true
           ·rw [if_pos c84] at H
            have c84b0 : (t217 != x19_61) = true := c84
            (try (have c84b1 : decide (t217 = x19_61) = false := by simpa using c84))
            (try (have c84b2 : (t217 == x19_61) = false := by simpa using c84))
            (try (have c84b3 : ¬ (t217 = x19_61) := by simpa using c84))
            clear c84
            have H' := Aside0.mk H
            clear H
            go_wp2_with (first | ((with_reducible refine gate_callee (f := 17) rfl ?_); refine goesL_ (some 143) rfl rfl Tryz.func17 (by kernel_rfl) rfl #[.string x15] rfl (by (try simp only [List.map_toArray, List.map_cons, List.map_nil]); first | done | rfl | (simp only [List.length_drop, List.length_take]; rfl)) ?_; (with_reducible refine (tlex_Stamp.calls kj61 x15 t214 _ A66.out).mono ?_); rintro e w85 ⟨rfl, hb⟩; refine ⟨_, rfl, ?_⟩; have n0_ := Aside0.mk (below_step (by repeat (first | (with_reducible first | exact HB.out | apply below_alloc | apply pw_below_drewN | apply below_drew1) | exact HB.out)) hb); clear HB; have HB := n0_; clear n0_; (try clear hb); (try clear hb2); (try clear hk); (try clear hi)) | (go_at_call 17; (with_reducible refine (tlex_Stamp.calls kj61 x16 t215 _ A69.out).mono ?_); rintro e w86 ⟨rfl, hb⟩; have n0_ := Aside0.mk (below_step (by repeat (first | (with_reducible first | exact HB.out | apply below_alloc | apply pw_below_drewN | apply below_drew1) | exact HB.out)) hb); clear HB; have HB := n0_; clear n0_; (try clear hb); (try clear hb2); (try clear hk); (try clear hi)) | (go_at_call 17; (with_reducible refine (tlex_Stamp.calls kj61 (((x15 ++ (⟨#[84]⟩ : ByteArray)) ++ x16) ++ (⟨#[90]⟩ : ByteArray)) t216 _ A76.out).mono ?_); rintro e w87 ⟨rfl, hb⟩; have n0_ := Aside0.mk (below_step (by repeat (first | (with_reducible first | exact HB.out | apply below_alloc | apply pw_below_drewN | apply below_drew1) | exact HB.out)) hb); clear HB; have HB := n0_; clear n0_; (try clear hb); (try clear hb2); (try clear hk); (try clear hi)) | (go_at_call 17; (with_reducible refine (tlex_Stamp.calls kj61 (x16 ++ (⟨#[46, 53]⟩ : ByteArray)) t217 _ A83.out).mono ?_); rintro e w88 ⟨rfl, hb⟩; have n0_ := Aside0.mk (below_step (by repeat (first | (with_reducible first | exact HB.out | apply below_alloc | apply pw_below_drewN | apply below_drew1) | exact HB.out)) hb); clear HB; have HB := n0_; clear n0_; (try clear hb); (try clear hb2); (try clear hk); (try clear hi)))
            go_meet
            case rel => exact ⟨_, (true), (by first | rfl | (simp; done) | (simp [*]; done)), H', ⟨by have := HJ9.out; have := HJ43.out; have := HJ57.out; have := HJ59.out; have := HJ61.out; first | omega | exact Nat.le_refl _⟩, ⟨by repeat (first | (with_reducible first | exact HB.out | apply below_alloc | apply pw_below_drewN | apply below_drew1) | exact HB.out)⟩⟩
           ·rw [if_neg c84] at H
            have c84b0 : (t217 != x19_61) = false := by simpa using c84
            (try (have c84b1 : decide (t217 = x19_61) = true := by simpa using c84))
            (try (have c84b2 : (t217 == x19_61) = true := by simpa using c84))
            clear c84
            by_cases c89 : (x15 ++ (⟨#[32]⟩ : ByteArray)).size + x16.size ≤ 9223372036854775807
            ·rw [if_pos c89] at H
             have c89b0 := eq_true c89
             have c89b1 : decide ((x15 ++ (⟨#[32]⟩ : ByteArray)).size + x16.size ≤ 9223372036854775807) = true := decide_eq_true c89
             try have c89b2 : (9223372036854775807 < (x15 ++ (⟨#[32]⟩ : ByteArray)).size + x16.size) = False := eq_false (Nat.not_lt.2 c89)
             try (have c89b3q := c89b2; simp only [ByteArray.size_append, sz45, sz58, sz84, sz90, sz32, sz43, sz46_53, sz58_51_48, sz32_35_32_120] at c89b3q)
             by_cases c90 : ((x15 ++ (⟨#[32]⟩ : ByteArray)) ++ x16).size + 1 ≤ 9223372036854775807
             ·rw [if_pos c90] at H
              have c90b0 := eq_true c90
              have c90b1 : decide (((x15 ++ (⟨#[32]⟩ : ByteArray)) ++ x16).size + 1 ≤ 9223372036854775807) = true := decide_eq_true c90
              try have c90b2 : (9223372036854775807 < ((x15 ++ (⟨#[32]⟩ : ByteArray)) ++ x16).size + 1) = False := eq_false (Nat.not_lt.2 c90)
              try (have c90b3q := c90b2; simp only [ByteArray.size_append, sz45, sz58, sz84, sz90, sz32, sz43, sz46_53, sz58_51_48, sz32_35_32_120] at c90b3q)
              replace H := Option.bind_eq_some_iff.mp H
              obtain ⟨t218, A910, H⟩ := H
              replace H : (if (((x15 ++ (⟨#[32]⟩ : ByteArray)) ++ x16) ++ (⟨#[43]⟩ : ByteArray)).size + t218.size ≤ 9223372036854775807 then (if ((((x15 ++ (⟨#[32]⟩ : ByteArray)) ++ x16) ++ (⟨#[43]⟩ : ByteArray)) ++ t218).size + 3 ≤ 9223372036854775807 then ((tlex_Stamp.f kj61 (((((x15 ++ (⟨#[32]⟩ : ByteArray)) ++ x16) ++ (⟨#[43]⟩ : ByteArray)) ++ t218) ++ (⟨#[58, 51, 48]⟩ : ByteArray))).bind fun t219 => (if x19_61 = true then (dragomanlaw10_TlexStamps.j5 kj61 x15 x16 true x19_61 (t219 != (decide (a6 < 24)))) else (dragomanlaw10_TlexStamps.j5 kj61 x15 x16 true x19_61 (t219 != false)))) else (none)) else (none)) = some r := H
              have A91 := Aside0.mk A910
              clear A910
              by_cases c92 : (((x15 ++ (⟨#[32]⟩ : ByteArray)) ++ x16) ++ (⟨#[43]⟩ : ByteArray)).size + t218.size ≤ 9223372036854775807
              ·rw [if_pos c92] at H
               have c92b0 := eq_true c92
               have c92b1 : decide ((((x15 ++ (⟨#[32]⟩ : ByteArray)) ++ x16) ++ (⟨#[43]⟩ : ByteArray)).size + t218.size ≤ 9223372036854775807) = true := decide_eq_true c92
               try have c92b2 : (9223372036854775807 < (((x15 ++ (⟨#[32]⟩ : ByteArray)) ++ x16) ++ (⟨#[43]⟩ : ByteArray)).size + t218.size) = False := eq_false (Nat.not_lt.2 c92)
               try (have c92b3q := c92b2; simp only [ByteArray.size_append, sz45, sz58, sz84, sz90, sz32, sz43, sz46_53, sz58_51_48, sz32_35_32_120] at c92b3q)
               by_cases c93 : ((((x15 ++ (⟨#[32]⟩ : ByteArray)) ++ x16) ++ (⟨#[43]⟩ : ByteArray)) ++ t218).size + 3 ≤ 9223372036854775807
               ·rw [if_pos c93] at H
                have c93b0 := eq_true c93
                have c93b1 : decide (((((x15 ++ (⟨#[32]⟩ : ByteArray)) ++ x16) ++ (⟨#[43]⟩ : ByteArray)) ++ t218).size + 3 ≤ 9223372036854775807) = true := decide_eq_true c93
                try have c93b2 : (9223372036854775807 < ((((x15 ++ (⟨#[32]⟩ : ByteArray)) ++ x16) ++ (⟨#[43]⟩ : ByteArray)) ++ t218).size + 3) = False := eq_false (Nat.not_lt.2 c93)
                try (have c93b3q := c93b2; simp only [ByteArray.size_append, sz45, sz58, sz84, sz90, sz32, sz43, sz46_53, sz58_51_48, sz32_35_32_120] at c93b3q)
                replace H := Option.bind_eq_some_iff.mp H
                obtain ⟨t219, A940, H⟩ := H
                replace H : (if x19_61 = true then (dragomanlaw10_TlexStamps.j5 kj61 x15 x16 true x19_61 (t219 != (decide (a6 < 24)))) else (dragomanlaw10_TlexStamps.j5 kj61 x15 x16 true x19_61 (t219 != false))) = some r := H
                have A94 := Aside0.mk A940
                clear A940
                by_cases c95 : x19_61 = true
                ·subst c95
                 have H1 : (dragomanlaw10_TlexStamps.j5 kj61 x15 x16 true true (t219 != (decide (a6 < 24)))) = some r := by rw [if_pos rfl] at H; exact H
                 clear H
                 have H := H1
                 clear H1
                 have H' := Aside0.mk H
                 clear H
                 go_wp2_with (first | ((with_reducible refine gate_callee (f := 17) rfl ?_); refine goesL_ (some 143) rfl rfl Tryz.func17 (by kernel_rfl) rfl #[.string x15] rfl (by (try simp only [List.map_toArray, List.map_cons, List.map_nil]); first | done | rfl | (simp only [List.length_drop, List.length_take]; rfl)) ?_; (with_reducible refine (tlex_Stamp.calls kj61 x15 t214 _ A66.out).mono ?_); rintro e w96 ⟨rfl, hb⟩; refine ⟨_, rfl, ?_⟩; have n0_ := Aside0.mk (below_step (by repeat (first | (with_reducible first | exact HB.out | apply below_alloc | apply pw_below_drewN | apply below_drew1) | exact HB.out)) hb); clear HB; have HB := n0_; clear n0_; (try clear hb); (try clear hb2); (try clear hk); (try clear hi)) | (go_at_call 17; (with_reducible refine (tlex_Stamp.calls kj61 x16 t215 _ A69.out).mono ?_); rintro e w97 ⟨rfl, hb⟩; have n0_ := Aside0.mk (below_step (by repeat (first | (with_reducible first | exact HB.out | apply below_alloc | apply pw_below_drewN | apply below_drew1) | exact HB.out)) hb); clear HB; have HB := n0_; clear n0_; (try clear hb); (try clear hb2); (try clear hk); (try clear hi)) | (go_at_call 17; (with_reducible refine (tlex_Stamp.calls kj61 (((x15 ++ (⟨#[84]⟩ : ByteArray)) ++ x16) ++ (⟨#[90]⟩ : ByteArray)) t216 _ A76.out).mono ?_); rintro e w98 ⟨rfl, hb⟩; have n0_ := Aside0.mk (below_step (by repeat (first | (with_reducible first | exact HB.out | apply below_alloc | apply pw_below_drewN | apply below_drew1) | exact HB.out)) hb); clear HB; have HB := n0_; clear n0_; (try clear hb); (try clear hb2); (try clear hk); (try clear hi)) | (go_at_call 17; (with_reducible refine (tlex_Stamp.calls kj61 (x16 ++ (⟨#[46, 53]⟩ : ByteArray)) t217 _ A83.out).mono ?_); rintro e w99 ⟨rfl, hb⟩; have n0_ := Aside0.mk (below_step (by repeat (first | (with_reducible first | exact HB.out | apply below_alloc | apply pw_below_drewN | apply below_drew1) | exact HB.out)) hb); clear HB; have HB := n0_; clear n0_; (try clear hb); (try clear hb2); (try clear hk); (try clear hi)) | (go_at_call 19; (with_reducible refine (dragomanlaw10_two.calls a6 t218 _ A91.out).mono ?_); rintro e w100 ⟨rfl, hb⟩; have n0_ := Aside0.mk (below_step (by repeat (first | (with_reducible first | exact HB.out | apply below_alloc | apply pw_below_drewN | apply below_drew1) | exact HB.out)) hb); clear HB; have HB := n0_; clear n0_; (try clear hb); (try clear hb2); (try clear hk); (try clear hi)) | (go_at_call 17; (with_reducible refine (tlex_Stamp.calls kj61 (((((x15 ++ (⟨#[32]⟩ : ByteArray)) ++ x16) ++ (⟨#[43]⟩ : ByteArray)) ++ t218) ++ (⟨#[58, 51, 48]⟩ : ByteArray)) t219 _ A94.out).mono ?_); rintro e w101 ⟨rfl, hb⟩; have n0_ := Aside0.mk (below_step (by repeat (first | (with_reducible first | exact HB.out | apply below_alloc | apply pw_below_drewN | apply below_drew1) | exact HB.out)) hb); clear HB; have HB := n0_; clear n0_; (try clear hb); (try clear hb2); (try clear hk); (try clear hi)))
                 go_meet
                 case rel => exact ⟨_, ((t219 != (decide (a6 < 24)))), (by first | rfl | (simp; done) | (simp [*]; done)), H', ⟨by have := HJ9.out; have := HJ43.out; have := HJ57.out; have := HJ59.out; have := HJ61.out; first | omega | exact Nat.le_refl _⟩, ⟨by repeat (first | (with_reducible first | exact HB.out | apply below_alloc | apply pw_below_drewN | apply below_drew1) | exact HB.out)⟩⟩
                ·replace c95 := Bool.eq_false_iff.mpr c95
                 subst c95
                 have H1 : (dragomanlaw10_TlexStamps.j5 kj61 x15 x16 true false (t219 != false)) = some r := by rw [if_neg (show ¬ (false = true) by decide)] at H; exact H
                 clear H
                 have H := H1
                 clear H1
                 have H' := Aside0.mk H
                 clear H
                 go_wp2_with (first | ((with_reducible refine gate_callee (f := 17) rfl ?_); refine goesL_ (some 143) rfl rfl Tryz.func17 (by kernel_rfl) rfl #[.string x15] rfl (by (try simp only [List.map_toArray, List.map_cons, List.map_nil]); first | done | rfl | (simp only [List.length_drop, List.length_take]; rfl)) ?_; (with_reducible refine (tlex_Stamp.calls kj61 x15 t214 _ A66.out).mono ?_); rintro e w102 ⟨rfl, hb⟩; refine ⟨_, rfl, ?_⟩; have n0_ := Aside0.mk (below_step (by repeat (first | (with_reducible first | exact HB.out | apply below_alloc | apply pw_below_drewN | apply below_drew1) | exact HB.out)) hb); clear HB; have HB := n0_; clear n0_; (try clear hb); (try clear hb2); (try clear hk); (try clear hi)) | (go_at_call 17; (with_reducible refine (tlex_Stamp.calls kj61 x16 t215 _ A69.out).mono ?_); rintro e w103 ⟨rfl, hb⟩; have n0_ := Aside0.mk (below_step (by repeat (first | (with_reducible first | exact HB.out | apply below_alloc | apply pw_below_drewN | apply below_drew1) | exact HB.out)) hb); clear HB; have HB := n0_; clear n0_; (try clear hb); (try clear hb2); (try clear hk); (try clear hi)) | (go_at_call 17; (with_reducible refine (tlex_Stamp.calls kj61 (((x15 ++ (⟨#[84]⟩ : ByteArray)) ++ x16) ++ (⟨#[90]⟩ : ByteArray)) t216 _ A76.out).mono ?_); rintro e w104 ⟨rfl, hb⟩; have n0_ := Aside0.mk (below_step (by repeat (first | (with_reducible first | exact HB.out | apply below_alloc | apply pw_below_drewN | apply below_drew1) | exact HB.out)) hb); clear HB; have HB := n0_; clear n0_; (try clear hb); (try clear hb2); (try clear hk); (try clear hi)) | (go_at_call 17; (with_reducible refine (tlex_Stamp.calls kj61 (x16 ++ (⟨#[46, 53]⟩ : ByteArray)) t217 _ A83.out).mono ?_); rintro e w105 ⟨rfl, hb⟩; have n0_ := Aside0.mk (below_step (by repeat (first | (with_reducible first | exact HB.out | apply below_alloc | apply pw_below_drewN | apply below_drew1) | exact HB.out)) hb); clear HB; have HB := n0_; clear n0_; (try clear hb); (try clear hb2); (try clear hk); (try clear hi)) | (go_at_call 19; (with_reducible refine (dragomanlaw10_two.calls a6 t218 _ A91.out).mono ?_); rintro e w106 ⟨rfl, hb⟩; have n0_ := Aside0.mk (below_step (by repeat (first | (with_reducible first | exact HB.out | apply below_alloc | apply pw_below_drewN | apply below_drew1) | exact HB.out)) hb); clear HB; have HB := n0_; clear n0_; (try clear hb); (try clear hb2); (try clear hk); (try clear hi)) | (go_at_call 17; (with_reducible refine (tlex_Stamp.calls kj61 (((((x15 ++ (⟨#[32]⟩ : ByteArray)) ++ x16) ++ (⟨#[43]⟩ : ByteArray)) ++ t218) ++ (⟨#[58, 51, 48]⟩ : ByteArray)) t219 _ A94.out).mono ?_); rintro e w107 ⟨rfl, hb⟩; have n0_ := Aside0.mk (below_step (by repeat (first | (with_reducible first | exact HB.out | apply below_alloc | apply pw_below_drewN | apply below_drew1) | exact HB.out)) hb); clear HB; have HB := n0_; clear n0_; (try clear hb); (try clear hb2); (try clear hk); (try clear hi)))
                 go_meet
                 case rel => exact ⟨_, ((t219 != false)), (by first | rfl | (simp; done) | (simp [*]; done)), H', ⟨by have := HJ9.out; have := HJ43.out; have := HJ57.out; have := HJ59.out; have := HJ61.out; first | omega | exact Nat.le_refl _⟩, ⟨by repeat (first | (with_reducible first | exact HB.out | apply below_alloc | apply pw_below_drewN | apply below_drew1) | exact HB.out)⟩⟩
               ·rw [if_neg c93] at H
                exact absurd H (by simp)
              ·rw [if_neg c92] at H
               exact absurd H (by simp)
             ·rw [if_neg c90] at H
              exact absurd H (by simp)
            ·rw [if_neg c89] at H
             exact absurd H (by simp)
          ·rw [if_neg c82] at H
           exact absurd H (by simp)
        ·replace c77 := Bool.eq_false_iff.mpr c77
         subst c77
         have H1 : (if (t216 != false) = true then (dragomanlaw10_TlexStamps.j5 kj61 x15 x16 false x19_61 true) else (if x16.size + 2 ≤ 9223372036854775807 then ((tlex_Stamp.f kj61 (x16 ++ (⟨#[46, 53]⟩ : ByteArray))).bind fun t220 => (if (t220 != x19_61) = true then (dragomanlaw10_TlexStamps.j5 kj61 x15 x16 false x19_61 true) else (if (x15 ++ (⟨#[32]⟩ : ByteArray)).size + x16.size ≤ 9223372036854775807 then (if ((x15 ++ (⟨#[32]⟩ : ByteArray)) ++ x16).size + 1 ≤ 9223372036854775807 then ((dragomanlaw10_two.f a6).bind fun t221 => (if (((x15 ++ (⟨#[32]⟩ : ByteArray)) ++ x16) ++ (⟨#[43]⟩ : ByteArray)).size + t221.size ≤ 9223372036854775807 then (if ((((x15 ++ (⟨#[32]⟩ : ByteArray)) ++ x16) ++ (⟨#[43]⟩ : ByteArray)) ++ t221).size + 3 ≤ 9223372036854775807 then ((tlex_Stamp.f kj61 (((((x15 ++ (⟨#[32]⟩ : ByteArray)) ++ x16) ++ (⟨#[43]⟩ : ByteArray)) ++ t221) ++ (⟨#[58, 51, 48]⟩ : ByteArray))).bind fun t222 => (dragomanlaw10_TlexStamps.j5 kj61 x15 x16 false x19_61 (t222 != false))) else (none)) else (none))) else (none)) else (none)))) else (none))) = some r := by rw [if_neg (show ¬ (false = true) by decide)] at H; exact H
         clear H
         have H := H1
         clear H1
         by_cases c108 : (t216 != false) = true
         ·rw [if_pos c108] at H
          have c108b0 : (t216 != false) = true := c108
          (try (have c108b1 : decide (t216 = false) = false := by simpa using c108))
          (try (have c108b2 : (t216 == false) = false := by simpa using c108))
          (try (have c108b3 : ¬ (t216 = false) := by simpa using c108))
          clear c108
          have H' := Aside0.mk H
          clear H
          go_wp2_with (first | ((with_reducible refine gate_callee (f := 17) rfl ?_); refine goesL_ (some 143) rfl rfl Tryz.func17 (by kernel_rfl) rfl #[.string x15] rfl (by (try simp only [List.map_toArray, List.map_cons, List.map_nil]); first | done | rfl | (simp only [List.length_drop, List.length_take]; rfl)) ?_; (with_reducible refine (tlex_Stamp.calls kj61 x15 t214 _ A66.out).mono ?_); rintro e w109 ⟨rfl, hb⟩; refine ⟨_, rfl, ?_⟩; have n0_ := Aside0.mk (below_step (by repeat (first | (with_reducible first | exact HB.out | apply below_alloc | apply pw_below_drewN | apply below_drew1) | exact HB.out)) hb); clear HB; have HB := n0_; clear n0_; (try clear hb); (try clear hb2); (try clear hk); (try clear hi)) | (go_at_call 17; (with_reducible refine (tlex_Stamp.calls kj61 x16 t215 _ A69.out).mono ?_); rintro e w110 ⟨rfl, hb⟩; have n0_ := Aside0.mk (below_step (by repeat (first | (with_reducible first | exact HB.out | apply below_alloc | apply pw_below_drewN | apply below_drew1) | exact HB.out)) hb); clear HB; have HB := n0_; clear n0_; (try clear hb); (try clear hb2); (try clear hk); (try clear hi)) | (go_at_call 17; (with_reducible refine (tlex_Stamp.calls kj61 (((x15 ++ (⟨#[84]⟩ : ByteArray)) ++ x16) ++ (⟨#[90]⟩ : ByteArray)) t216 _ A76.out).mono ?_); rintro e w111 ⟨rfl, hb⟩; have n0_ := Aside0.mk (below_step (by repeat (first | (with_reducible first | exact HB.out | apply below_alloc | apply pw_below_drewN | apply below_drew1) | exact HB.out)) hb); clear HB; have HB := n0_; clear n0_; (try clear hb); (try clear hb2); (try clear hk); (try clear hi)))
          go_meet
          case rel => exact ⟨_, (true), (by first | rfl | (simp; done) | (simp [*]; done)), H', ⟨by have := HJ9.out; have := HJ43.out; have := HJ57.out; have := HJ59.out; have := HJ61.out; first | omega | exact Nat.le_refl _⟩, ⟨by repeat (first | (with_reducible first | exact HB.out | apply below_alloc | apply pw_below_drewN | apply below_drew1) | exact HB.out)⟩⟩
         ·rw [if_neg c108] at H
          have c108b0 : (t216 != false) = false := by simpa using c108
          (try (have c108b1 : decide (t216 = false) = true := by simpa using c108))
          (try (have c108b2 : (t216 == false) = true := by simpa using c108))
          clear c108
          by_cases c112 : x16.size + 2 ≤ 9223372036854775807
          ·rw [if_pos c112] at H
           have c112b0 := eq_true c112
           have c112b1 : decide (x16.size + 2 ≤ 9223372036854775807) = true := decide_eq_true c112
           try have c112b2 : (9223372036854775807 < x16.size + 2) = False := eq_false (Nat.not_lt.2 c112)
           try (have c112b3q := c112b2; simp only [ByteArray.size_append, sz45, sz58, sz84, sz90, sz32, sz43, sz46_53, sz58_51_48, sz32_35_32_120] at c112b3q)
           replace H := Option.bind_eq_some_iff.mp H
           obtain ⟨t220, A1130, H⟩ := H
           replace H : (if (t220 != x19_61) = true then (dragomanlaw10_TlexStamps.j5 kj61 x15 x16 false x19_61 true) else (if (x15 ++ (⟨#[32]⟩ : ByteArray)).size + x16.size ≤ 9223372036854775807 then (if ((x15 ++ (⟨#[32]⟩ : ByteArray)) ++ x16).size + 1 ≤ 9223372036854775807 then ((dragomanlaw10_two.f a6).bind fun t221 => (if (((x15 ++ (⟨#[32]⟩ : ByteArray)) ++ x16) ++ (⟨#[43]⟩ : ByteArray)).size + t221.size ≤ 9223372036854775807 then (if ((((x15 ++ (⟨#[32]⟩ : ByteArray)) ++ x16) ++ (⟨#[43]⟩ : ByteArray)) ++ t221).size + 3 ≤ 9223372036854775807 then ((tlex_Stamp.f kj61 (((((x15 ++ (⟨#[32]⟩ : ByteArray)) ++ x16) ++ (⟨#[43]⟩ : ByteArray)) ++ t221) ++ (⟨#[58, 51, 48]⟩ : ByteArray))).bind fun t222 => (dragomanlaw10_TlexStamps.j5 kj61 x15 x16 false x19_61 (t222 != false))) else (none)) else (none))) else (none)) else (none))) = some r := H
           have A113 := Aside0.mk A1130
           clear A1130
           by_cases c114 : (t220 != x19_61) = true
           ·rw [if_pos c114] at H
            have c114b0 : (t220 != x19_61) = true := c114
            (try (have c114b1 : decide (t220 = x19_61) = false := by simpa using c114))
            (try (have c114b2 : (t220 == x19_61) = false := by simpa using c114))
            (try (have c114b3 : ¬ (t220 = x19_61) := by simpa using c114))
            clear c114
            have H' := Aside0.mk H
            clear H
            go_wp2_with (first | ((with_reducible refine gate_callee (f := 17) rfl ?_); refine goesL_ (some 143) rfl rfl Tryz.func17 (by kernel_rfl) rfl #[.string x15] rfl (by (try simp only [List.map_toArray, List.map_cons, List.map_nil]); first | done | rfl | (simp only [List.length_drop, List.length_take]; rfl)) ?_; (with_reducible refine (tlex_Stamp.calls kj61 x15 t214 _ A66.out).mono ?_); rintro e w115 ⟨rfl, hb⟩; refine ⟨_, rfl, ?_⟩; have n0_ := Aside0.mk (below_step (by repeat (first | (with_reducible first | exact HB.out | apply below_alloc | apply pw_below_drewN | apply below_drew1) | exact HB.out)) hb); clear HB; have HB := n0_; clear n0_; (try clear hb); (try clear hb2); (try clear hk); (try clear hi)) | (go_at_call 17; (with_reducible refine (tlex_Stamp.calls kj61 x16 t215 _ A69.out).mono ?_); rintro e w116 ⟨rfl, hb⟩; have n0_ := Aside0.mk (below_step (by repeat (first | (with_reducible first | exact HB.out | apply below_alloc | apply pw_below_drewN | apply below_drew1) | exact HB.out)) hb); clear HB; have HB := n0_; clear n0_; (try clear hb); (try clear hb2); (try clear hk); (try clear hi)) | (go_at_call 17; (with_reducible refine (tlex_Stamp.calls kj61 (((x15 ++ (⟨#[84]⟩ : ByteArray)) ++ x16) ++ (⟨#[90]⟩ : ByteArray)) t216 _ A76.out).mono ?_); rintro e w117 ⟨rfl, hb⟩; have n0_ := Aside0.mk (below_step (by repeat (first | (with_reducible first | exact HB.out | apply below_alloc | apply pw_below_drewN | apply below_drew1) | exact HB.out)) hb); clear HB; have HB := n0_; clear n0_; (try clear hb); (try clear hb2); (try clear hk); (try clear hi)) | (go_at_call 17; (with_reducible refine (tlex_Stamp.calls kj61 (x16 ++ (⟨#[46, 53]⟩ : ByteArray)) t220 _ A113.out).mono ?_); rintro e w118 ⟨rfl, hb⟩; have n0_ := Aside0.mk (below_step (by repeat (first | (with_reducible first | exact HB.out | apply below_alloc | apply pw_below_drewN | apply below_drew1) | exact HB.out)) hb); clear HB; have HB := n0_; clear n0_; (try clear hb); (try clear hb2); (try clear hk); (try clear hi)))
            go_meet
            case rel => exact ⟨_, (true), (by first | rfl | (simp; done) | (simp [*]; done)), H', ⟨by have := HJ9.out; have := HJ43.out; have := HJ57.out; have := HJ59.out; have := HJ61.out; first | omega | exact Nat.le_refl _⟩, ⟨by repeat (first | (with_reducible first | exact HB.out | apply below_alloc | apply pw_below_drewN | apply below_drew1) | exact HB.out)⟩⟩
           ·rw [if_neg c114] at H
            have c114b0 : (t220 != x19_61) = false := by simpa using c114
            (try (have c114b1 : decide (t220 = x19_61) = true := by simpa using c114))
            (try (have c114b2 : (t220 == x19_61) = true := by simpa using c114))
            clear c114
            by_cases c119 : (x15 ++ (⟨#[32]⟩ : ByteArray)).size + x16.size ≤ 9223372036854775807
            ·rw [if_pos c119] at H
             have c119b0 := eq_true c119
             have c119b1 : decide ((x15 ++ (⟨#[32]⟩ : ByteArray)).size + x16.size ≤ 9223372036854775807) = true := decide_eq_true c119
             try have c119b2 : (9223372036854775807 < (x15 ++ (⟨#[32]⟩ : ByteArray)).size + x16.size) = False := eq_false (Nat.not_lt.2 c119)
             try (have c119b3q := c119b2; simp only [ByteArray.size_append, sz45, sz58, sz84, sz90, sz32, sz43, sz46_53, sz58_51_48, sz32_35_32_120] at c119b3q)
             by_cases c120 : ((x15 ++ (⟨#[32]⟩ : ByteArray)) ++ x16).size + 1 ≤ 9223372036854775807
             ·rw [if_pos c120] at H
              have c120b0 := eq_true c120
              have c120b1 : decide (((x15 ++ (⟨#[32]⟩ : ByteArray)) ++ x16).size + 1 ≤ 9223372036854775807) = true := decide_eq_true c120
              try have c120b2 : (9223372036854775807 < ((x15 ++ (⟨#[32]⟩ : ByteArray)) ++ x16).size + 1) = False := eq_false (Nat.not_lt.2 c120)
              try (have c120b3q := c120b2; simp only [ByteArray.size_append, sz45, sz58, sz84, sz90, sz32, sz43, sz46_53, sz58_51_48, sz32_35_32_120] at c120b3q)
              replace H := Option.bind_eq_some_iff.mp H
              obtain ⟨t221, A1210, H⟩ := H
              replace H : (if (((x15 ++ (⟨#[32]⟩ : ByteArray)) ++ x16) ++ (⟨#[43]⟩ : ByteArray)).size + t221.size ≤ 9223372036854775807 then (if ((((x15 ++ (⟨#[32]⟩ : ByteArray)) ++ x16) ++ (⟨#[43]⟩ : ByteArray)) ++ t221).size + 3 ≤ 9223372036854775807 then ((tlex_Stamp.f kj61 (((((x15 ++ (⟨#[32]⟩ : ByteArray)) ++ x16) ++ (⟨#[43]⟩ : ByteArray)) ++ t221) ++ (⟨#[58, 51, 48]⟩ : ByteArray))).bind fun t222 => (dragomanlaw10_TlexStamps.j5 kj61 x15 x16 false x19_61 (t222 != false))) else (none)) else (none)) = some r := H
              have A121 := Aside0.mk A1210
              clear A1210
              by_cases c122 : (((x15 ++ (⟨#[32]⟩ : ByteArray)) ++ x16) ++ (⟨#[43]⟩ : ByteArray)).size + t221.size ≤ 9223372036854775807
              ·rw [if_pos c122] at H
               have c122b0 := eq_true c122
               have c122b1 : decide ((((x15 ++ (⟨#[32]⟩ : ByteArray)) ++ x16) ++ (⟨#[43]⟩ : ByteArray)).size + t221.size ≤ 9223372036854775807) = true := decide_eq_true c122
               try have c122b2 : (9223372036854775807 < (((x15 ++ (⟨#[32]⟩ : ByteArray)) ++ x16) ++ (⟨#[43]⟩ : ByteArray)).size + t221.size) = False := eq_false (Nat.not_lt.2 c122)
               try (have c122b3q := c122b2; simp only [ByteArray.size_append, sz45, sz58, sz84, sz90, sz32, sz43, sz46_53, sz58_51_48, sz32_35_32_120] at c122b3q)
               by_cases c123 : ((((x15 ++ (⟨#[32]⟩ : ByteArray)) ++ x16) ++ (⟨#[43]⟩ : ByteArray)) ++ t221).size + 3 ≤ 9223372036854775807
               ·rw [if_pos c123] at H
                have c123b0 := eq_true c123
                have c123b1 : decide (((((x15 ++ (⟨#[32]⟩ : ByteArray)) ++ x16) ++ (⟨#[43]⟩ : ByteArray)) ++ t221).size + 3 ≤ 9223372036854775807) = true := decide_eq_true c123
                try have c123b2 : (9223372036854775807 < ((((x15 ++ (⟨#[32]⟩ : ByteArray)) ++ x16) ++ (⟨#[43]⟩ : ByteArray)) ++ t221).size + 3) = False := eq_false (Nat.not_lt.2 c123)
                try (have c123b3q := c123b2; simp only [ByteArray.size_append, sz45, sz58, sz84, sz90, sz32, sz43, sz46_53, sz58_51_48, sz32_35_32_120] at c123b3q)
                replace H := Option.bind_eq_some_iff.mp H
                obtain ⟨t222, A1240, H⟩ := H
                replace H : (dragomanlaw10_TlexStamps.j5 kj61 x15 x16 false x19_61 (t222 != false)) = some r := H
                have A124 := Aside0.mk A1240
                clear A1240
                have H' := Aside0.mk H
                clear H
                go_wp2_with (first | ((with_reducible refine gate_callee (f := 17) rfl ?_); refine goesL_ (some 143) rfl rfl Tryz.func17 (by kernel_rfl) rfl #[.string x15] rfl (by (try simp only [List.map_toArray, List.map_cons, List.map_nil]); first | done | rfl | (simp only [List.length_drop, List.length_take]; rfl)) ?_; (with_reducible refine (tlex_Stamp.calls kj61 x15 t214 _ A66.out).mono ?_); rintro e w125 ⟨rfl, hb⟩; refine ⟨_, rfl, ?_⟩; have n0_ := Aside0.mk (below_step (by repeat (first | (with_reducible first | exact HB.out | apply below_alloc | apply pw_below_drewN | apply below_drew1) | exact HB.out)) hb); clear HB; have HB := n0_; clear n0_; (try clear hb); (try clear hb2); (try clear hk); (try clear hi)) | (go_at_call 17; (with_reducible refine (tlex_Stamp.calls kj61 x16 t215 _ A69.out).mono ?_); rintro e w126 ⟨rfl, hb⟩; have n0_ := Aside0.mk (below_step (by repeat (first | (with_reducible first | exact HB.out | apply below_alloc | apply pw_below_drewN | apply below_drew1) | exact HB.out)) hb); clear HB; have HB := n0_; clear n0_; (try clear hb); (try clear hb2); (try clear hk); (try clear hi)) | (go_at_call 17; (with_reducible refine (tlex_Stamp.calls kj61 (((x15 ++ (⟨#[84]⟩ : ByteArray)) ++ x16) ++ (⟨#[90]⟩ : ByteArray)) t216 _ A76.out).mono ?_); rintro e w127 ⟨rfl, hb⟩; have n0_ := Aside0.mk (below_step (by repeat (first | (with_reducible first | exact HB.out | apply below_alloc | apply pw_below_drewN | apply below_drew1) | exact HB.out)) hb); clear HB; have HB := n0_; clear n0_; (try clear hb); (try clear hb2); (try clear hk); (try clear hi)) | (go_at_call 17; (with_reducible refine (tlex_Stamp.calls kj61 (x16 ++ (⟨#[46, 53]⟩ : ByteArray)) t220 _ A113.out).mono ?_); rintro e w128 ⟨rfl, hb⟩; have n0_ := Aside0.mk (below_step (by repeat (first | (with_reducible first | exact HB.out | apply below_alloc | apply pw_below_drewN | apply below_drew1) | exact HB.out)) hb); clear HB; have HB := n0_; clear n0_; (try clear hb); (try clear hb2); (try clear hk); (try clear hi)) | (go_at_call 19; (with_reducible refine (dragomanlaw10_two.calls a6 t221 _ A121.out).mono ?_); rintro e w129 ⟨rfl, hb⟩; have n0_ := Aside0.mk (below_step (by repeat (first | (with_reducible first | exact HB.out | apply below_alloc | apply pw_below_drewN | apply below_drew1) | exact HB.out)) hb); clear HB; have HB := n0_; clear n0_; (try clear hb); (try clear hb2); (try clear hk); (try clear hi)) | (go_at_call 17; (with_reducible refine (tlex_Stamp.calls kj61 (((((x15 ++ (⟨#[32]⟩ : ByteArray)) ++ x16) ++ (⟨#[43]⟩ : ByteArray)) ++ t221) ++ (⟨#[58, 51, 48]⟩ : ByteArray)) t222 _ A124.out).mono ?_); rintro e w130 ⟨rfl, hb⟩; have n0_ := Aside0.mk (below_step (by repeat (first | (with_reducible first | exact HB.out | apply below_alloc | apply pw_below_drewN | apply below_drew1) | exact HB.out)) hb); clear HB; have HB := n0_; clear n0_; (try clear hb); (try clear hb2); (try clear hk); (try clear hi)))
                go_meet
                case rel => exact ⟨_, ((t222 != false)), (by first | rfl | (simp; done) | (simp [*]; done)), H', ⟨by have := HJ9.out; have := HJ43.out; have := HJ57.out; have := HJ59.out; have := HJ61.out; first | omega | exact Nat.le_refl _⟩, ⟨by repeat (first | (with_reducible first | exact HB.out | apply below_alloc | apply pw_below_drewN | apply below_drew1) | exact HB.out)⟩⟩
               ·rw [if_neg c123] at H
                exact absurd H (by simp)
              ·rw [if_neg c122] at H
               exact absurd H (by simp)
             ·rw [if_neg c120] at H
              exact absurd H (by simp)
            ·rw [if_neg c119] at H
             exact absurd H (by simp)
          ·rw [if_neg c112] at H
           exact absurd H (by simp)
       ·rw [if_neg c75] at H
        exact absurd H (by simp)
      ·rw [if_neg c74] at H
       exact absurd H (by simp)
     ·rw [if_neg c73] at H
      exact absurd H (by simp)
  case rest =>
   clear HC65
   try clear c1
   try clear c2
   try clear p2
   try clear q2
   try clear hx2
   try clear c3
   try clear c4
   try clear c5
   try clear c6
   try clear p6
   try clear c7
   try clear c8
   try clear c9
   try clear c10
   try clear c11
   try clear c12
   try clear c12b0
   try clear c13
   try clear c13b0
   try clear c14
   try clear c14b0
   try clear c15
   try clear c15b0
   try clear c16
   try clear c16b0
   try clear c17
   try clear c17b0
   try clear c18
   try clear c18b0
   try clear c19
   try clear c19b0
   try clear c20
   try clear c20b0
   try clear c21
   try clear c21b0
   try clear p21
   try clear q21
   try clear hx21
   try clear c22
   try clear c22b0
   try clear c23
   try clear c23b0
   try clear c24
   try clear c24b0
   try clear c25
   try clear c28
   try clear c28b0
   try clear c28b1
   try clear c28b2
   try clear c29
   try clear c29b0
   try clear c29b1
   try clear c29b2
   try clear c31
   try clear c31b0
   try clear c31b1
   try clear c31b2
   try clear c32
   try clear c32b0
   try clear c32b1
   try clear c32b2
   try clear c34
   try clear c34b0
   try clear c34b1
   try clear c34b2
   try clear c36
   try clear c36b0
   try clear c36b1
   try clear c36b2
   try clear c38
   try clear c38b0
   try clear c38b1
   try clear c38b2
   try clear c39
   try clear c39b0
   try clear c39b1
   try clear c39b2
   try clear c41
   try clear c41b0
   try clear c41b1
   try clear c41b2
   try clear c42
   try clear c42b0
   try clear c43
   try clear c43b0
   try clear c55
   try clear c55b0
   try clear c55b1
   try clear c56
   try clear c56b0
   try clear c56b1
   try clear c57
   try clear c57b0
   try clear c57b1
   try clear c59
   try clear c61
   try clear c61b0
   try clear c63
   try clear c63b0
   try clear c64
   try clear c64b0
   try clear p64
   try clear c67
   try clear c67b0
   try clear c67b1
   try clear c67b2
   try clear c70
   try clear c70b0
   try clear c70b1
   try clear c70b2
   try clear c73
   try clear c73b0
   try clear c73b1
   try clear c73b2
   try clear c74
   try clear c74b0
   try clear c74b1
   try clear c74b2
   try clear c75
   try clear c75b0
   try clear c75b1
   try clear c75b2
   try clear c77
   try clear c78
   try clear c78b0
   try clear c78b1
   try clear c78b2
   try clear c82
   try clear c82b0
   try clear c82b1
   try clear c82b2
   try clear c84
   try clear c84b0
   try clear c84b1
   try clear c84b2
   try clear c89
   try clear c89b0
   try clear c89b1
   try clear c89b2
   try clear c90
   try clear c90b0
   try clear c90b1
   try clear c90b2
   try clear c92
   try clear c92b0
   try clear c92b1
   try clear c92b2
   try clear c93
   try clear c93b0
   try clear c93b1
   try clear c93b2
   try clear c95
   try clear c108
   try clear c108b0
   try clear c108b1
   try clear c108b2
   try clear c112
   try clear c112b0
   try clear c112b1
   try clear c112b2
   try clear c114
   try clear c114b0
   try clear c114b1
   try clear c114b2
   try clear c119
   try clear c119b0
   try clear c119b1
   try clear c119b2
   try clear c120
   try clear c120b0
   try clear c120b1
   try clear c120b2
   try clear c122
   try clear c122b0
   try clear c122b1
   try clear c122b2
   try clear c123
   try clear c123b0
   try clear c123b1
   try clear c123b2
   try clear hx213_0
   try clear p2
   try clear p21
   try clear p213
   try clear p6
   try clear p64
   try clear q2
   try clear q21
   try clear q213
   obtain ⟨kq, x192_64, rfl, HA, HJ64, HB⟩ := hcut
   cases kq with
   | zero => exact absurd HA.out (by simp [dragomanlaw10_TlexStamps.j5])
   | succ kj64 =>
    have H := HA.out
    clear HA
    simp only [dragomanlaw10_TlexStamps.j5] at H
    by_cases c131 : x192_64 = true
    ·subst c131
     have H1 : (some false) = some r := by rw [if_pos rfl] at H; exact H
     clear H
     have H := H1
     clear H1
     obtain rfl := Option.some.inj H
     go_wp2
     go_ret
     exact ⟨by first | rfl | (simp [errW_none, errW_some] <;> rfl) | (simp [*, errW_none, errW_some] <;> rfl), by repeat (first | (with_reducible first | exact HB.out | apply below_alloc | apply pw_below_drewN | apply below_drew1) | exact HB.out)⟩
    ·replace c131 := Bool.eq_false_iff.mpr c131
     subst c131
     have H1 : (if x15.size + 1 ≤ 9223372036854775807 then (if (x15 ++ (⟨#[32]⟩ : ByteArray)).size + x16.size ≤ 9223372036854775807 then (if ((x15 ++ (⟨#[32]⟩ : ByteArray)) ++ x16).size + 4 ≤ 9223372036854775807 then ((tlex_Plain.f kj64 (((x15 ++ (⟨#[32]⟩ : ByteArray)) ++ x16) ++ (⟨#[32, 35, 32, 120]⟩ : ByteArray)) 0).bind fun bt223 => (if x18_59 = true then (if x19_61 = true then (if bt223.2.2.2.2.2.2.1 = 0 then (if bt223.2.2.2.2.2.1 = 19 then (if bt223.1 = 7 then (some (bt223.2.2.1.toList == ((x15 ++ (⟨#[32]⟩ : ByteArray)) ++ x16).toList)) else (some false)) else (some false)) else (some false)) else (some true)) else (some true))) else (none)) else (none)) else (none)) = some r := by rw [if_neg (show ¬ (false = true) by decide)] at H; exact H
     clear H
     have H := H1
     clear H1
     by_cases c132 : x15.size + 1 ≤ 9223372036854775807
     ·rw [if_pos c132] at H
      have c132b0 := eq_true c132
      have c132b1 : decide (x15.size + 1 ≤ 9223372036854775807) = true := decide_eq_true c132
      try have c132b2 : (9223372036854775807 < x15.size + 1) = False := eq_false (Nat.not_lt.2 c132)
      try (have c132b3q := c132b2; simp only [ByteArray.size_append, sz45, sz58, sz84, sz90, sz32, sz43, sz46_53, sz58_51_48, sz32_35_32_120] at c132b3q)
      by_cases c133 : (x15 ++ (⟨#[32]⟩ : ByteArray)).size + x16.size ≤ 9223372036854775807
      ·rw [if_pos c133] at H
       have c133b0 := eq_true c133
       have c133b1 : decide ((x15 ++ (⟨#[32]⟩ : ByteArray)).size + x16.size ≤ 9223372036854775807) = true := decide_eq_true c133
       try have c133b2 : (9223372036854775807 < (x15 ++ (⟨#[32]⟩ : ByteArray)).size + x16.size) = False := eq_false (Nat.not_lt.2 c133)
       try (have c133b3q := c133b2; simp only [ByteArray.size_append, sz45, sz58, sz84, sz90, sz32, sz43, sz46_53, sz58_51_48, sz32_35_32_120] at c133b3q)
       by_cases c134 : ((x15 ++ (⟨#[32]⟩ : ByteArray)) ++ x16).size + 4 ≤ 9223372036854775807
       ·rw [if_pos c134] at H
        have c134b0 := eq_true c134
        have c134b1 : decide (((x15 ++ (⟨#[32]⟩ : ByteArray)) ++ x16).size + 4 ≤ 9223372036854775807) = true := decide_eq_true c134
        try have c134b2 : (9223372036854775807 < ((x15 ++ (⟨#[32]⟩ : ByteArray)) ++ x16).size + 4) = False := eq_false (Nat.not_lt.2 c134)
        try (have c134b3q := c134b2; simp only [ByteArray.size_append, sz45, sz58, sz84, sz90, sz32, sz43, sz46_53, sz58_51_48, sz32_35_32_120] at c134b3q)
        replace H := Option.bind_eq_some_iff.mp H
        obtain ⟨⟨t223, t224, t225, t226, t229, t232, t233, t234⟩, A1350, H⟩ := H
        replace H : (if x18_59 = true then (if x19_61 = true then (if t233 = 0 then (if t232 = 19 then (if t223 = 7 then (some (t225.toList == ((x15 ++ (⟨#[32]⟩ : ByteArray)) ++ x16).toList)) else (some false)) else (some false)) else (some false)) else (some true)) else (some true)) = some r := H
        have A135 := Aside0.mk A1350
        clear A1350
        by_cases c136 : x18_59 = true
        ·subst c136
         have H1 : (if x19_61 = true then (if t233 = 0 then (if t232 = 19 then (if t223 = 7 then (some (t225.toList == ((x15 ++ (⟨#[32]⟩ : ByteArray)) ++ x16).toList)) else (some false)) else (some false)) else (some false)) else (some true)) = some r := by rw [if_pos rfl] at H; exact H
         clear H
         have H := H1
         clear H1
         by_cases c137 : x19_61 = true
         ·subst c137
          have H1 : (if t233 = 0 then (if t232 = 19 then (if t223 = 7 then (some (t225.toList == ((x15 ++ (⟨#[32]⟩ : ByteArray)) ++ x16).toList)) else (some false)) else (some false)) else (some false)) = some r := by rw [if_pos rfl] at H; exact H
          clear H
          have H := H1
          clear H1
          by_cases c138 : t233 = 0
          ·rw [if_pos c138] at H
           have c138b0 : (t233 == 0) = true := beq_iff_eq.mpr c138
           have c138b1 : (t233 != 0) = false := bne_eq_false_iff_eq.mpr c138
           clear c138
           by_cases c139 : t232 = 19
           ·rw [if_pos c139] at H
            have c139b0 : (t232 == 19) = true := beq_iff_eq.mpr c139
            have c139b1 : (t232 != 19) = false := bne_eq_false_iff_eq.mpr c139
            clear c139
            by_cases c140 : t223 = 7
            ·rw [if_pos c140] at H
             have c140b0 : (t223 == 7) = true := beq_iff_eq.mpr c140
             have c140b1 : (t223 != 7) = false := bne_eq_false_iff_eq.mpr c140
             clear c140
             obtain rfl := Option.some.inj H
             go_wp2_with (first | ((with_reducible refine gate_callee (f := 16) rfl ?_); refine goesL_ (some 199) rfl rfl Tryz.func16 (by kernel_rfl) rfl #[.string (((x15 ++ (⟨#[32]⟩ : ByteArray)) ++ x16) ++ (⟨#[32, 35, 32, 120]⟩ : ByteArray)), .int .i64 0] rfl (by (try simp only [List.map_toArray, List.map_cons, List.map_nil]); first | done | rfl | (simp only [List.length_drop, List.length_take]; rfl)) ?_; (with_reducible refine (tlex_Plain.calls kj64 (((x15 ++ (⟨#[32]⟩ : ByteArray)) ++ x16) ++ (⟨#[32, 35, 32, 120]⟩ : ByteArray)) 0 t223 t224 t225 t226 t229 t232 t233 t234 _ A135.out).mono ?_); rintro e w141 ⟨v227, v230, rfl, ho0, ho1, hb⟩; refine ⟨_, rfl, ?_⟩; have n0_ := Aside0.mk (Kd.R_lower ho0 (below_size (by repeat (first | (with_reducible first | exact HB.out | apply below_alloc | apply pw_below_drewN | apply below_drew1) | exact HB.out)))); have n1_ := Aside0.mk (Kd.R_lower ho1 (below_size (by repeat (first | (with_reducible first | exact HB.out | apply below_alloc | apply pw_below_drewN | apply below_drew1) | exact HB.out)))); have n2_ := Aside0.mk (below_step (by repeat (first | (with_reducible first | exact HB.out | apply below_alloc | apply pw_below_drewN | apply below_drew1) | exact HB.out)) hb); clear HB; have HO228 := n0_; have HO231 := n1_; have HB := n2_; clear n0_ n1_ n2_; (try clear hb); (try clear hb2); (try clear hk); (try clear hi); (try clear ho0); (try clear ho1)) | ((with_reducible refine gate_dst (N := 20) rfl ?_); refine box_event ?hg (N := 20) ?hd (cs := #[.int .i64 0, .int .i64 0, .string (⟨#[]⟩ : ByteArray), .slice none 0 0, .slice none 0 0]) (t := 27) ?hr ?_; (case hd => rfl); (case hg => rfl); (case hr => first | (go_simp; done) | (go_simp; rfl)); intro gb235 hg w142 hbox hb; have n0_ := Aside0.mk (Kd.R_below (by (with_reducible repeat (first | apply Kd.R_alloc | apply Kd.R_drewN | apply Kd.R_drew)); exact HO228.out) hb); have n1_ := Aside0.mk (Kd.R_below (by (with_reducible repeat (first | apply Kd.R_alloc | apply Kd.R_drewN | apply Kd.R_drew)); exact HO231.out) hb); have n2_ := Aside0.mk (below_step (by repeat (first | (with_reducible first | exact HB.out | apply below_alloc | apply pw_below_drewN | apply below_drew1) | exact HB.out)) hb); have n3_ := Aside0.mk (hbox); have n4_ := Aside0.mk ((by rw [hg]; exact (below_size (by repeat (first | (with_reducible first | exact HB.out | apply below_alloc | apply pw_below_drewN | apply below_drew1) | exact HB.out))) : w.heap.size ≤ gb235)); have n5_ := Aside0.mk ((by rw [hg]; exact (below_size (by repeat (first | (with_reducible first | exact HB.out | apply below_alloc | apply pw_below_drewN | apply below_drew1) | exact HB.out))) : w.heap.size ≤ gb235)); clear HO228; clear HO231; clear HB; have HO228 := n0_; have HO231 := n1_; have HB := n2_; have BK235 := n3_; have GW235 := n4_; have GE235 := n5_; clear n0_ n1_ n2_ n3_ n4_ n5_; clear hb hbox hg; have hcz143_0 : w142.cell? ⟨gb235, 0, none⟩ = some (.int .i64 0) := (blk_cell BK235.out 0).trans rfl; have hcz143_1 : w142.cell? ⟨gb235, 1, none⟩ = some (.int .i64 0) := (blk_cell BK235.out 1).trans rfl; have hcz143_2 : w142.cell? ⟨gb235, 2, none⟩ = some (.string (⟨#[]⟩ : ByteArray)) := (blk_cell BK235.out 2).trans rfl; have hcz143_3 : w142.cell? ⟨gb235, 3, none⟩ = some (.slice none 0 0) := (blk_cell BK235.out 3).trans rfl; have hcz143_4 : w142.cell? ⟨gb235, 4, none⟩ = some (.slice none 0 0) := (blk_cell BK235.out 4).trans rfl; have hfz143_0 := blk_frozen BK235.out 0; have hfz143_1 := blk_frozen BK235.out 1; have hfz143_2 := blk_frozen BK235.out 2; have hfz143_3 := blk_frozen BK235.out 3; have hfz143_4 := blk_frozen BK235.out 4; obtain ⟨Ao144, co144, eo144⟩ := Kd.R_slice HO228.out; subst eo144; obtain ⟨Ao145, co145, eo145⟩ := Kd.R_slice HO231.out; subst eo145))
             go_ret
             exact ⟨by first | rfl | (simp [errW_none, errW_some] <;> rfl) | (simp [*, errW_none, errW_some] <;> rfl), by repeat (first | (with_reducible first | exact HB.out | apply below_alloc | apply pw_below_drewN | apply below_drew1 | refine below_set ?_ GE235.out) | exact HB.out)⟩
            ·rw [if_neg c140] at H
             have c140b0 : (t223 == 7) = false := beq_eq_false_iff_ne.mpr c140
             have c140b1 : (t223 != 7) = true := bne_iff_ne.mpr c140
             obtain rfl := Option.some.inj H
             go_wp2_with (first | ((with_reducible refine gate_callee (f := 16) rfl ?_); refine goesL_ (some 199) rfl rfl Tryz.func16 (by kernel_rfl) rfl #[.string (((x15 ++ (⟨#[32]⟩ : ByteArray)) ++ x16) ++ (⟨#[32, 35, 32, 120]⟩ : ByteArray)), .int .i64 0] rfl (by (try simp only [List.map_toArray, List.map_cons, List.map_nil]); first | done | rfl | (simp only [List.length_drop, List.length_take]; rfl)) ?_; (with_reducible refine (tlex_Plain.calls kj64 (((x15 ++ (⟨#[32]⟩ : ByteArray)) ++ x16) ++ (⟨#[32, 35, 32, 120]⟩ : ByteArray)) 0 t223 t224 t225 t226 t229 t232 t233 t234 _ A135.out).mono ?_); rintro e w146 ⟨v227, v230, rfl, ho0, ho1, hb⟩; refine ⟨_, rfl, ?_⟩; have n0_ := Aside0.mk (Kd.R_lower ho0 (below_size (by repeat (first | (with_reducible first | exact HB.out | apply below_alloc | apply pw_below_drewN | apply below_drew1) | exact HB.out)))); have n1_ := Aside0.mk (Kd.R_lower ho1 (below_size (by repeat (first | (with_reducible first | exact HB.out | apply below_alloc | apply pw_below_drewN | apply below_drew1) | exact HB.out)))); have n2_ := Aside0.mk (below_step (by repeat (first | (with_reducible first | exact HB.out | apply below_alloc | apply pw_below_drewN | apply below_drew1) | exact HB.out)) hb); clear HB; have HO228 := n0_; have HO231 := n1_; have HB := n2_; clear n0_ n1_ n2_; (try clear hb); (try clear hb2); (try clear hk); (try clear hi); (try clear ho0); (try clear ho1)) | ((with_reducible refine gate_dst (N := 20) rfl ?_); refine box_event ?hg (N := 20) ?hd (cs := #[.int .i64 0, .int .i64 0, .string (⟨#[]⟩ : ByteArray), .slice none 0 0, .slice none 0 0]) (t := 27) ?hr ?_; (case hd => rfl); (case hg => rfl); (case hr => first | (go_simp; done) | (go_simp; rfl)); intro gb235 hg w147 hbox hb; have n0_ := Aside0.mk (Kd.R_below (by (with_reducible repeat (first | apply Kd.R_alloc | apply Kd.R_drewN | apply Kd.R_drew)); exact HO228.out) hb); have n1_ := Aside0.mk (Kd.R_below (by (with_reducible repeat (first | apply Kd.R_alloc | apply Kd.R_drewN | apply Kd.R_drew)); exact HO231.out) hb); have n2_ := Aside0.mk (below_step (by repeat (first | (with_reducible first | exact HB.out | apply below_alloc | apply pw_below_drewN | apply below_drew1) | exact HB.out)) hb); have n3_ := Aside0.mk (hbox); have n4_ := Aside0.mk ((by rw [hg]; exact (below_size (by repeat (first | (with_reducible first | exact HB.out | apply below_alloc | apply pw_below_drewN | apply below_drew1) | exact HB.out))) : w.heap.size ≤ gb235)); have n5_ := Aside0.mk ((by rw [hg]; exact (below_size (by repeat (first | (with_reducible first | exact HB.out | apply below_alloc | apply pw_below_drewN | apply below_drew1) | exact HB.out))) : w.heap.size ≤ gb235)); clear HO228; clear HO231; clear HB; have HO228 := n0_; have HO231 := n1_; have HB := n2_; have BK235 := n3_; have GW235 := n4_; have GE235 := n5_; clear n0_ n1_ n2_ n3_ n4_ n5_; clear hb hbox hg; have hcz148_0 : w147.cell? ⟨gb235, 0, none⟩ = some (.int .i64 0) := (blk_cell BK235.out 0).trans rfl; have hcz148_1 : w147.cell? ⟨gb235, 1, none⟩ = some (.int .i64 0) := (blk_cell BK235.out 1).trans rfl; have hcz148_2 : w147.cell? ⟨gb235, 2, none⟩ = some (.string (⟨#[]⟩ : ByteArray)) := (blk_cell BK235.out 2).trans rfl; have hcz148_3 : w147.cell? ⟨gb235, 3, none⟩ = some (.slice none 0 0) := (blk_cell BK235.out 3).trans rfl; have hcz148_4 : w147.cell? ⟨gb235, 4, none⟩ = some (.slice none 0 0) := (blk_cell BK235.out 4).trans rfl; have hfz148_0 := blk_frozen BK235.out 0; have hfz148_1 := blk_frozen BK235.out 1; have hfz148_2 := blk_frozen BK235.out 2; have hfz148_3 := blk_frozen BK235.out 3; have hfz148_4 := blk_frozen BK235.out 4; obtain ⟨Ao149, co149, eo149⟩ := Kd.R_slice HO228.out; subst eo149; obtain ⟨Ao150, co150, eo150⟩ := Kd.R_slice HO231.out; subst eo150))
             go_ret
             exact ⟨by first | rfl | (simp [errW_none, errW_some] <;> rfl) | (simp [*, errW_none, errW_some] <;> rfl), by repeat (first | (with_reducible first | exact HB.out | apply below_alloc | apply pw_below_drewN | apply below_drew1 | refine below_set ?_ GE235.out) | exact HB.out)⟩
           ·rw [if_neg c139] at H
            have c139b0 : (t232 == 19) = false := beq_eq_false_iff_ne.mpr c139
            have c139b1 : (t232 != 19) = true := bne_iff_ne.mpr c139
            obtain rfl := Option.some.inj H
            go_wp2_with (first | ((with_reducible refine gate_callee (f := 16) rfl ?_); refine goesL_ (some 199) rfl rfl Tryz.func16 (by kernel_rfl) rfl #[.string (((x15 ++ (⟨#[32]⟩ : ByteArray)) ++ x16) ++ (⟨#[32, 35, 32, 120]⟩ : ByteArray)), .int .i64 0] rfl (by (try simp only [List.map_toArray, List.map_cons, List.map_nil]); first | done | rfl | (simp only [List.length_drop, List.length_take]; rfl)) ?_; (with_reducible refine (tlex_Plain.calls kj64 (((x15 ++ (⟨#[32]⟩ : ByteArray)) ++ x16) ++ (⟨#[32, 35, 32, 120]⟩ : ByteArray)) 0 t223 t224 t225 t226 t229 t232 t233 t234 _ A135.out).mono ?_); rintro e w151 ⟨v227, v230, rfl, ho0, ho1, hb⟩; refine ⟨_, rfl, ?_⟩; have n0_ := Aside0.mk (Kd.R_lower ho0 (below_size (by repeat (first | (with_reducible first | exact HB.out | apply below_alloc | apply pw_below_drewN | apply below_drew1) | exact HB.out)))); have n1_ := Aside0.mk (Kd.R_lower ho1 (below_size (by repeat (first | (with_reducible first | exact HB.out | apply below_alloc | apply pw_below_drewN | apply below_drew1) | exact HB.out)))); have n2_ := Aside0.mk (below_step (by repeat (first | (with_reducible first | exact HB.out | apply below_alloc | apply pw_below_drewN | apply below_drew1) | exact HB.out)) hb); clear HB; have HO228 := n0_; have HO231 := n1_; have HB := n2_; clear n0_ n1_ n2_; (try clear hb); (try clear hb2); (try clear hk); (try clear hi); (try clear ho0); (try clear ho1)) | ((with_reducible refine gate_dst (N := 20) rfl ?_); refine box_event ?hg (N := 20) ?hd (cs := #[.int .i64 0, .int .i64 0, .string (⟨#[]⟩ : ByteArray), .slice none 0 0, .slice none 0 0]) (t := 27) ?hr ?_; (case hd => rfl); (case hg => rfl); (case hr => first | (go_simp; done) | (go_simp; rfl)); intro gb235 hg w152 hbox hb; have n0_ := Aside0.mk (Kd.R_below (by (with_reducible repeat (first | apply Kd.R_alloc | apply Kd.R_drewN | apply Kd.R_drew)); exact HO228.out) hb); have n1_ := Aside0.mk (Kd.R_below (by (with_reducible repeat (first | apply Kd.R_alloc | apply Kd.R_drewN | apply Kd.R_drew)); exact HO231.out) hb); have n2_ := Aside0.mk (below_step (by repeat (first | (with_reducible first | exact HB.out | apply below_alloc | apply pw_below_drewN | apply below_drew1) | exact HB.out)) hb); have n3_ := Aside0.mk (hbox); have n4_ := Aside0.mk ((by rw [hg]; exact (below_size (by repeat (first | (with_reducible first | exact HB.out | apply below_alloc | apply pw_below_drewN | apply below_drew1) | exact HB.out))) : w.heap.size ≤ gb235)); have n5_ := Aside0.mk ((by rw [hg]; exact (below_size (by repeat (first | (with_reducible first | exact HB.out | apply below_alloc | apply pw_below_drewN | apply below_drew1) | exact HB.out))) : w.heap.size ≤ gb235)); clear HO228; clear HO231; clear HB; have HO228 := n0_; have HO231 := n1_; have HB := n2_; have BK235 := n3_; have GW235 := n4_; have GE235 := n5_; clear n0_ n1_ n2_ n3_ n4_ n5_; clear hb hbox hg; have hcz153_0 : w152.cell? ⟨gb235, 0, none⟩ = some (.int .i64 0) := (blk_cell BK235.out 0).trans rfl; have hcz153_1 : w152.cell? ⟨gb235, 1, none⟩ = some (.int .i64 0) := (blk_cell BK235.out 1).trans rfl; have hcz153_2 : w152.cell? ⟨gb235, 2, none⟩ = some (.string (⟨#[]⟩ : ByteArray)) := (blk_cell BK235.out 2).trans rfl; have hcz153_3 : w152.cell? ⟨gb235, 3, none⟩ = some (.slice none 0 0) := (blk_cell BK235.out 3).trans rfl; have hcz153_4 : w152.cell? ⟨gb235, 4, none⟩ = some (.slice none 0 0) := (blk_cell BK235.out 4).trans rfl; have hfz153_0 := blk_frozen BK235.out 0; have hfz153_1 := blk_frozen BK235.out 1; have hfz153_2 := blk_frozen BK235.out 2; have hfz153_3 := blk_frozen BK235.out 3; have hfz153_4 := blk_frozen BK235.out 4; obtain ⟨Ao154, co154, eo154⟩ := Kd.R_slice HO228.out; subst eo154; obtain ⟨Ao155, co155, eo155⟩ := Kd.R_slice HO231.out; subst eo155))
            go_ret
            exact ⟨by first | rfl | (simp [errW_none, errW_some] <;> rfl) | (simp [*, errW_none, errW_some] <;> rfl), by repeat (first | (with_reducible first | exact HB.out | apply below_alloc | apply pw_below_drewN | apply below_drew1 | refine below_set ?_ GE235.out) | exact HB.out)⟩
          ·rw [if_neg c138] at H
           have c138b0 : (t233 == 0) = false := beq_eq_false_iff_ne.mpr c138
           have c138b1 : (t233 != 0) = true := bne_iff_ne.mpr c138
           obtain rfl := Option.some.inj H
           go_wp2_with (first | ((with_reducible refine gate_callee (f := 16) rfl ?_); refine goesL_ (some 199) rfl rfl Tryz.func16 (by kernel_rfl) rfl #[.string (((x15 ++ (⟨#[32]⟩ : ByteArray)) ++ x16) ++ (⟨#[32, 35, 32, 120]⟩ : ByteArray)), .int .i64 0] rfl (by (try simp only [List.map_toArray, List.map_cons, List.map_nil]); first | done | rfl | (simp only [List.length_drop, List.length_take]; rfl)) ?_; (with_reducible refine (tlex_Plain.calls kj64 (((x15 ++ (⟨#[32]⟩ : ByteArray)) ++ x16) ++ (⟨#[32, 35, 32, 120]⟩ : ByteArray)) 0 t223 t224 t225 t226 t229 t232 t233 t234 _ A135.out).mono ?_); rintro e w156 ⟨v227, v230, rfl, ho0, ho1, hb⟩; refine ⟨_, rfl, ?_⟩; have n0_ := Aside0.mk (Kd.R_lower ho0 (below_size (by repeat (first | (with_reducible first | exact HB.out | apply below_alloc | apply pw_below_drewN | apply below_drew1) | exact HB.out)))); have n1_ := Aside0.mk (Kd.R_lower ho1 (below_size (by repeat (first | (with_reducible first | exact HB.out | apply below_alloc | apply pw_below_drewN | apply below_drew1) | exact HB.out)))); have n2_ := Aside0.mk (below_step (by repeat (first | (with_reducible first | exact HB.out | apply below_alloc | apply pw_below_drewN | apply below_drew1) | exact HB.out)) hb); clear HB; have HO228 := n0_; have HO231 := n1_; have HB := n2_; clear n0_ n1_ n2_; (try clear hb); (try clear hb2); (try clear hk); (try clear hi); (try clear ho0); (try clear ho1)) | ((with_reducible refine gate_dst (N := 20) rfl ?_); refine box_event ?hg (N := 20) ?hd (cs := #[.int .i64 0, .int .i64 0, .string (⟨#[]⟩ : ByteArray), .slice none 0 0, .slice none 0 0]) (t := 27) ?hr ?_; (case hd => rfl); (case hg => rfl); (case hr => first | (go_simp; done) | (go_simp; rfl)); intro gb235 hg w157 hbox hb; have n0_ := Aside0.mk (Kd.R_below (by (with_reducible repeat (first | apply Kd.R_alloc | apply Kd.R_drewN | apply Kd.R_drew)); exact HO228.out) hb); have n1_ := Aside0.mk (Kd.R_below (by (with_reducible repeat (first | apply Kd.R_alloc | apply Kd.R_drewN | apply Kd.R_drew)); exact HO231.out) hb); have n2_ := Aside0.mk (below_step (by repeat (first | (with_reducible first | exact HB.out | apply below_alloc | apply pw_below_drewN | apply below_drew1) | exact HB.out)) hb); have n3_ := Aside0.mk (hbox); have n4_ := Aside0.mk ((by rw [hg]; exact (below_size (by repeat (first | (with_reducible first | exact HB.out | apply below_alloc | apply pw_below_drewN | apply below_drew1) | exact HB.out))) : w.heap.size ≤ gb235)); have n5_ := Aside0.mk ((by rw [hg]; exact (below_size (by repeat (first | (with_reducible first | exact HB.out | apply below_alloc | apply pw_below_drewN | apply below_drew1) | exact HB.out))) : w.heap.size ≤ gb235)); clear HO228; clear HO231; clear HB; have HO228 := n0_; have HO231 := n1_; have HB := n2_; have BK235 := n3_; have GW235 := n4_; have GE235 := n5_; clear n0_ n1_ n2_ n3_ n4_ n5_; clear hb hbox hg; have hcz158_0 : w157.cell? ⟨gb235, 0, none⟩ = some (.int .i64 0) := (blk_cell BK235.out 0).trans rfl; have hcz158_1 : w157.cell? ⟨gb235, 1, none⟩ = some (.int .i64 0) := (blk_cell BK235.out 1).trans rfl; have hcz158_2 : w157.cell? ⟨gb235, 2, none⟩ = some (.string (⟨#[]⟩ : ByteArray)) := (blk_cell BK235.out 2).trans rfl; have hcz158_3 : w157.cell? ⟨gb235, 3, none⟩ = some (.slice none 0 0) := (blk_cell BK235.out 3).trans rfl; have hcz158_4 : w157.cell? ⟨gb235, 4, none⟩ = some (.slice none 0 0) := (blk_cell BK235.out 4).trans rfl; have hfz158_0 := blk_frozen BK235.out 0; have hfz158_1 := blk_frozen BK235.out 1; have hfz158_2 := blk_frozen BK235.out 2; have hfz158_3 := blk_frozen BK235.out 3; have hfz158_4 := blk_frozen BK235.out 4; obtain ⟨Ao159, co159, eo159⟩ := Kd.R_slice HO228.out; subst eo159; obtain ⟨Ao160, co160, eo160⟩ := Kd.R_slice HO231.out; subst eo160))
           go_ret
           exact ⟨by first | rfl | (simp [errW_none, errW_some] <;> rfl) | (simp [*, errW_none, errW_some] <;> rfl), by repeat (first | (with_reducible first | exact HB.out | apply below_alloc | apply pw_below_drewN | apply below_drew1 | refine below_set ?_ GE235.out) | exact HB.out)⟩
         ·replace c137 := Bool.eq_false_iff.mpr c137
          subst c137
          have H1 : (some true) = some r := by rw [if_neg (show ¬ (false = true) by decide)] at H; exact H
          clear H
          have H := H1
          clear H1
          obtain rfl := Option.some.inj H
          go_wp2_with (first | ((with_reducible refine gate_callee (f := 16) rfl ?_); refine goesL_ (some 199) rfl rfl Tryz.func16 (by kernel_rfl) rfl #[.string (((x15 ++ (⟨#[32]⟩ : ByteArray)) ++ x16) ++ (⟨#[32, 35, 32, 120]⟩ : ByteArray)), .int .i64 0] rfl (by (try simp only [List.map_toArray, List.map_cons, List.map_nil]); first | done | rfl | (simp only [List.length_drop, List.length_take]; rfl)) ?_; (with_reducible refine (tlex_Plain.calls kj64 (((x15 ++ (⟨#[32]⟩ : ByteArray)) ++ x16) ++ (⟨#[32, 35, 32, 120]⟩ : ByteArray)) 0 t223 t224 t225 t226 t229 t232 t233 t234 _ A135.out).mono ?_); rintro e w161 ⟨v227, v230, rfl, ho0, ho1, hb⟩; refine ⟨_, rfl, ?_⟩; have n0_ := Aside0.mk (Kd.R_lower ho0 (below_size (by repeat (first | (with_reducible first | exact HB.out | apply below_alloc | apply pw_below_drewN | apply below_drew1) | exact HB.out)))); have n1_ := Aside0.mk (Kd.R_lower ho1 (below_size (by repeat (first | (with_reducible first | exact HB.out | apply below_alloc | apply pw_below_drewN | apply below_drew1) | exact HB.out)))); have n2_ := Aside0.mk (below_step (by repeat (first | (with_reducible first | exact HB.out | apply below_alloc | apply pw_below_drewN | apply below_drew1) | exact HB.out)) hb); clear HB; have HO228 := n0_; have HO231 := n1_; have HB := n2_; clear n0_ n1_ n2_; (try clear hb); (try clear hb2); (try clear hk); (try clear hi); (try clear ho0); (try clear ho1)) | ((with_reducible refine gate_dst (N := 20) rfl ?_); refine box_event ?hg (N := 20) ?hd (cs := #[.int .i64 0, .int .i64 0, .string (⟨#[]⟩ : ByteArray), .slice none 0 0, .slice none 0 0]) (t := 27) ?hr ?_; (case hd => rfl); (case hg => rfl); (case hr => first | (go_simp; done) | (go_simp; rfl)); intro gb235 hg w162 hbox hb; have n0_ := Aside0.mk (Kd.R_below (by (with_reducible repeat (first | apply Kd.R_alloc | apply Kd.R_drewN | apply Kd.R_drew)); exact HO228.out) hb); have n1_ := Aside0.mk (Kd.R_below (by (with_reducible repeat (first | apply Kd.R_alloc | apply Kd.R_drewN | apply Kd.R_drew)); exact HO231.out) hb); have n2_ := Aside0.mk (below_step (by repeat (first | (with_reducible first | exact HB.out | apply below_alloc | apply pw_below_drewN | apply below_drew1) | exact HB.out)) hb); have n3_ := Aside0.mk (hbox); have n4_ := Aside0.mk ((by rw [hg]; exact (below_size (by repeat (first | (with_reducible first | exact HB.out | apply below_alloc | apply pw_below_drewN | apply below_drew1) | exact HB.out))) : w.heap.size ≤ gb235)); have n5_ := Aside0.mk ((by rw [hg]; exact (below_size (by repeat (first | (with_reducible first | exact HB.out | apply below_alloc | apply pw_below_drewN | apply below_drew1) | exact HB.out))) : w.heap.size ≤ gb235)); clear HO228; clear HO231; clear HB; have HO228 := n0_; have HO231 := n1_; have HB := n2_; have BK235 := n3_; have GW235 := n4_; have GE235 := n5_; clear n0_ n1_ n2_ n3_ n4_ n5_; clear hb hbox hg; have hcz163_0 : w162.cell? ⟨gb235, 0, none⟩ = some (.int .i64 0) := (blk_cell BK235.out 0).trans rfl; have hcz163_1 : w162.cell? ⟨gb235, 1, none⟩ = some (.int .i64 0) := (blk_cell BK235.out 1).trans rfl; have hcz163_2 : w162.cell? ⟨gb235, 2, none⟩ = some (.string (⟨#[]⟩ : ByteArray)) := (blk_cell BK235.out 2).trans rfl; have hcz163_3 : w162.cell? ⟨gb235, 3, none⟩ = some (.slice none 0 0) := (blk_cell BK235.out 3).trans rfl; have hcz163_4 : w162.cell? ⟨gb235, 4, none⟩ = some (.slice none 0 0) := (blk_cell BK235.out 4).trans rfl; have hfz163_0 := blk_frozen BK235.out 0; have hfz163_1 := blk_frozen BK235.out 1; have hfz163_2 := blk_frozen BK235.out 2; have hfz163_3 := blk_frozen BK235.out 3; have hfz163_4 := blk_frozen BK235.out 4; obtain ⟨Ao164, co164, eo164⟩ := Kd.R_slice HO228.out; subst eo164; obtain ⟨Ao165, co165, eo165⟩ := Kd.R_slice HO231.out; subst eo165))
          go_ret
          exact ⟨by first | rfl | (simp [errW_none, errW_some] <;> rfl) | (simp [*, errW_none, errW_some] <;> rfl), by repeat (first | (with_reducible first | exact HB.out | apply below_alloc | apply pw_below_drewN | apply below_drew1 | refine below_set ?_ GE235.out) | exact HB.out)⟩
        ·replace c136 := Bool.eq_false_iff.mpr c136
         subst c136
         have H1 : (some true) = some r := by rw [if_neg (show ¬ (false = true) by decide)] at H; exact H
         clear H
         have H := H1
         clear H1
         obtain rfl := Option.some.inj H
         go_wp2_with (first | ((with_reducible refine gate_callee (f := 16) rfl ?_); refine goesL_ (some 199) rfl rfl Tryz.func16 (by kernel_rfl) rfl #[.string (((x15 ++ (⟨#[32]⟩ : ByteArray)) ++ x16) ++ (⟨#[32, 35, 32, 120]⟩ : ByteArray)), .int .i64 0] rfl (by (try simp only [List.map_toArray, List.map_cons, List.map_nil]); first | done | rfl | (simp only [List.length_drop, List.length_take]; rfl)) ?_; (with_reducible refine (tlex_Plain.calls kj64 (((x15 ++ (⟨#[32]⟩ : ByteArray)) ++ x16) ++ (⟨#[32, 35, 32, 120]⟩ : ByteArray)) 0 t223 t224 t225 t226 t229 t232 t233 t234 _ A135.out).mono ?_); rintro e w166 ⟨v227, v230, rfl, ho0, ho1, hb⟩; refine ⟨_, rfl, ?_⟩; have n0_ := Aside0.mk (Kd.R_lower ho0 (below_size (by repeat (first | (with_reducible first | exact HB.out | apply below_alloc | apply pw_below_drewN | apply below_drew1) | exact HB.out)))); have n1_ := Aside0.mk (Kd.R_lower ho1 (below_size (by repeat (first | (with_reducible first | exact HB.out | apply below_alloc | apply pw_below_drewN | apply below_drew1) | exact HB.out)))); have n2_ := Aside0.mk (below_step (by repeat (first | (with_reducible first | exact HB.out | apply below_alloc | apply pw_below_drewN | apply below_drew1) | exact HB.out)) hb); clear HB; have HO228 := n0_; have HO231 := n1_; have HB := n2_; clear n0_ n1_ n2_; (try clear hb); (try clear hb2); (try clear hk); (try clear hi); (try clear ho0); (try clear ho1)) | ((with_reducible refine gate_dst (N := 20) rfl ?_); refine box_event ?hg (N := 20) ?hd (cs := #[.int .i64 0, .int .i64 0, .string (⟨#[]⟩ : ByteArray), .slice none 0 0, .slice none 0 0]) (t := 27) ?hr ?_; (case hd => rfl); (case hg => rfl); (case hr => first | (go_simp; done) | (go_simp; rfl)); intro gb235 hg w167 hbox hb; have n0_ := Aside0.mk (Kd.R_below (by (with_reducible repeat (first | apply Kd.R_alloc | apply Kd.R_drewN | apply Kd.R_drew)); exact HO228.out) hb); have n1_ := Aside0.mk (Kd.R_below (by (with_reducible repeat (first | apply Kd.R_alloc | apply Kd.R_drewN | apply Kd.R_drew)); exact HO231.out) hb); have n2_ := Aside0.mk (below_step (by repeat (first | (with_reducible first | exact HB.out | apply below_alloc | apply pw_below_drewN | apply below_drew1) | exact HB.out)) hb); have n3_ := Aside0.mk (hbox); have n4_ := Aside0.mk ((by rw [hg]; exact (below_size (by repeat (first | (with_reducible first | exact HB.out | apply below_alloc | apply pw_below_drewN | apply below_drew1) | exact HB.out))) : w.heap.size ≤ gb235)); have n5_ := Aside0.mk ((by rw [hg]; exact (below_size (by repeat (first | (with_reducible first | exact HB.out | apply below_alloc | apply pw_below_drewN | apply below_drew1) | exact HB.out))) : w.heap.size ≤ gb235)); clear HO228; clear HO231; clear HB; have HO228 := n0_; have HO231 := n1_; have HB := n2_; have BK235 := n3_; have GW235 := n4_; have GE235 := n5_; clear n0_ n1_ n2_ n3_ n4_ n5_; clear hb hbox hg; have hcz168_0 : w167.cell? ⟨gb235, 0, none⟩ = some (.int .i64 0) := (blk_cell BK235.out 0).trans rfl; have hcz168_1 : w167.cell? ⟨gb235, 1, none⟩ = some (.int .i64 0) := (blk_cell BK235.out 1).trans rfl; have hcz168_2 : w167.cell? ⟨gb235, 2, none⟩ = some (.string (⟨#[]⟩ : ByteArray)) := (blk_cell BK235.out 2).trans rfl; have hcz168_3 : w167.cell? ⟨gb235, 3, none⟩ = some (.slice none 0 0) := (blk_cell BK235.out 3).trans rfl; have hcz168_4 : w167.cell? ⟨gb235, 4, none⟩ = some (.slice none 0 0) := (blk_cell BK235.out 4).trans rfl; have hfz168_0 := blk_frozen BK235.out 0; have hfz168_1 := blk_frozen BK235.out 1; have hfz168_2 := blk_frozen BK235.out 2; have hfz168_3 := blk_frozen BK235.out 3; have hfz168_4 := blk_frozen BK235.out 4; obtain ⟨Ao169, co169, eo169⟩ := Kd.R_slice HO228.out; subst eo169; obtain ⟨Ao170, co170, eo170⟩ := Kd.R_slice HO231.out; subst eo170))
         go_ret
         exact ⟨by first | rfl | (simp [errW_none, errW_some] <;> rfl) | (simp [*, errW_none, errW_some] <;> rfl), by repeat (first | (with_reducible first | exact HB.out | apply below_alloc | apply pw_below_drewN | apply below_drew1 | refine below_set ?_ GE235.out) | exact HB.out)⟩
       ·rw [if_neg c134] at H
        exact absurd H (by simp)
      ·rw [if_neg c133] at H
       exact absurd H (by simp)
     ·rw [if_neg c132] at H
      exact absurd H (by simp)

end Go.Proofs.YtfddpaljmihinaaGreatDoor.PStamps
