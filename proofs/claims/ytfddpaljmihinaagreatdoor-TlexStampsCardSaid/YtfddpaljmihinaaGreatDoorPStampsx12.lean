/-
  A walk printed by the kit's printer, with functions that are given, and turned by programs of this session. (Conditions: what each theorem asks.)
-/
import Derived.Test.YtfddpaljmihinaaGreatDoorPStampsx11
-- PRINTED by print.py (a twelfth state) out of the translation, and cut by a program of this session's. Not trusted: Lean checks it.
namespace Go.Proofs.YtfddpaljmihinaaGreatDoor.PStamps
open Go.RowKit Go.Proofs.YtfddpaljmihinaaGreatDoorW.PrintWords Go.Proofs.YtfddpaljmihinaaGreatDoorW.PrintLast Go.Proofs.YtfddpaljmihinaaGreatDoorW.PrintMore
attribute [local go_sem] max2_int min2_int max_two min_two max_three min_three max_four min_four   -- for this text's walks alone

set_option linter.unusedVariables false
set_option linter.unusedSimpArgs false

set_option maxHeartbeats 8000000 in
set_option maxRecDepth 100000 in
theorem dragomanlaw10_TlexStamps.part1 {k : Nat} {a0 a1 a2 a3 a4 a5 a6 : Int} {r : Bool} {w wc : World} [Go.Proofs.YtfddpaljmihinaaGreatDoor.Cut.GoodW w] {u24 u25 u26 u27 u28 u29 u30 u31 u32 u33 u34 u35 u36 u37 u38 u39 u40 u41 u42 u43 u44 u45 u46 u47 u48 u49 u50 u51 u52 u53 u54 u55 u56 u57 u58 u59 u60 u61 u62 u63 u64 u65 u66 u67 u68 u69 u70 u71 u72 u73 u74 u75 u76 u77 u78 u79 u80 u81 u82 u83 u84 u85 u86 u87 u88 u89 u90 u91 u92 u93 u94 u95 u96 u97 u98 u99 u100 u101 u102 u103 u104 u105 u106 u107 u108 u109 u110 u111 u112 u113 u114 u115 u116 u117 u118 u119 u120 u121 u122 u123 u124 u125 u126 u127 u128 u129 u130 u131 u132 u133 u134 u135 u136 u137 u138 u139 u140 u141 u142 u143 u144 u145 u146 u147 u148 u149 u150 u151 u152 u153 u154 u155 u156 u157 u158 u159 u160 u161 u162 u163 u164 u165 u166 u167 u168 u169 u170 u171 u172 u173 u174 u175 u176 u177 u178 u179 u180 u181 u182 u183 u184 u185 u186 u187 u188 u189 u190 u191 u192 u193 u194 u195 u196 u197 u198 u199 u200 u201 u202 u203 u204 u205 u206 u207 u208 u209 u210 u211 u212 u213 u214 u215 u216 u217 u218 u219 u220 u221 u222 u223 u224 u225 u226 u227 u228 u229 : Value} {K1 : Act → World → Prop} (hK1 : ∀ a w', Code.wp Tryz.prog (code1 Tryz.f5) (bodyPost Tryz.prog Tryz.f5 fun e w' => e = .returned (.bool r) ∧ Below w.heap.size w w') a w' → K1 a w')
  (hcut : ∃ (kq : Nat) (x79_9 : Bool), u79 = .bool x79_9 ∧ Aside0 (dragomanlaw10_TlexStamps.j0 kq a0 a1 a2 a3 a4 a5 a6 x79_9 = some r) ∧ Aside0 (kq ≤ k) ∧ Aside0 (Below w.heap.size w wc)) :
  Code.wp Tryz.prog (code0 Tryz.f5) (Exit.then K1 (bodyPost Tryz.prog Tryz.f5 fun e w' => e = .returned (.bool r) ∧ Below w.heap.size w w')) ⟨List.toArray (.int .i64 a0 :: .int .i64 a1 :: .int .i64 a2 :: .int .i64 a3 :: .int .i64 a4 :: .int .i64 a5 :: .int .i64 a6 :: undef :: undef :: undef :: undef :: undef :: undef :: undef :: .bool false :: undef :: undef :: undef :: undef :: undef :: undef :: undef :: undef :: undef :: u24 :: u25 :: u26 :: u27 :: u28 :: u29 :: u30 :: u31 :: u32 :: u33 :: u34 :: u35 :: u36 :: u37 :: u38 :: u39 :: u40 :: u41 :: u42 :: u43 :: u44 :: u45 :: u46 :: u47 :: u48 :: u49 :: u50 :: u51 :: u52 :: u53 :: u54 :: u55 :: u56 :: u57 :: u58 :: u59 :: u60 :: u61 :: u62 :: u63 :: u64 :: u65 :: u66 :: u67 :: u68 :: u69 :: u70 :: u71 :: u72 :: u73 :: u74 :: u75 :: u76 :: u77 :: u78 :: u79 :: u80 :: u81 :: u82 :: u83 :: u84 :: u85 :: u86 :: u87 :: u88 :: u89 :: u90 :: u91 :: u92 :: u93 :: u94 :: u95 :: u96 :: u97 :: u98 :: u99 :: u100 :: u101 :: u102 :: u103 :: u104 :: u105 :: u106 :: u107 :: u108 :: u109 :: u110 :: u111 :: u112 :: u113 :: u114 :: u115 :: u116 :: u117 :: u118 :: u119 :: u120 :: u121 :: u122 :: u123 :: u124 :: u125 :: u126 :: u127 :: u128 :: u129 :: u130 :: u131 :: u132 :: u133 :: u134 :: u135 :: u136 :: u137 :: u138 :: u139 :: u140 :: u141 :: u142 :: u143 :: u144 :: u145 :: u146 :: u147 :: u148 :: u149 :: u150 :: u151 :: u152 :: u153 :: u154 :: u155 :: u156 :: u157 :: u158 :: u159 :: u160 :: u161 :: u162 :: u163 :: u164 :: u165 :: u166 :: u167 :: u168 :: u169 :: u170 :: u171 :: u172 :: u173 :: u174 :: u175 :: u176 :: u177 :: u178 :: u179 :: u180 :: u181 :: u182 :: u183 :: u184 :: u185 :: u186 :: u187 :: u188 :: u189 :: u190 :: u191 :: u192 :: u193 :: u194 :: u195 :: u196 :: u197 :: u198 :: u199 :: u200 :: u201 :: u202 :: u203 :: u204 :: u205 :: u206 :: u207 :: u208 :: u209 :: u210 :: u211 :: u212 :: u213 :: u214 :: u215 :: u216 :: u217 :: u218 :: u219 :: u220 :: u221 :: u222 :: u223 :: u224 :: u225 :: u226 :: u227 :: u228 :: u229 :: []), []⟩ wc := by
 have hu27 := Tryz.underlying27
 conv => arg 2; whnf
 conv at hK1 => ext a w'; arg 1; arg 2; whnf
 try clear c1
 try clear c2
 try clear p2
 try clear c5
 try clear c9
 try clear c12
 try clear c12b0
 try clear c13
 try clear c13b0
 try clear c14
 try clear c14b0
 try clear c15
 try clear c15b0
 try clear c16
 try clear c16b0
 try clear c17
 try clear c17b0
 try clear c18
 try clear c18b0
 try clear c19
 try clear c19b0
 try clear c20
 try clear c20b0
 try clear c21
 try clear c21b0
 try clear c22
 try clear c22b0
 try clear c23
 try clear c23b0
 try clear c24
 try clear c24b0
 obtain ⟨kq, x79_9, rfl, HA, HJ9, HB⟩ := hcut
 cases kq with
 | zero => exact absurd HA.out (by simp [dragomanlaw10_TlexStamps.j0])
 | succ kj9 =>
  have H := HA.out
  clear HA
  simp only [dragomanlaw10_TlexStamps.j0] at H
  by_cases c25 : x79_9 = true
  ·subst c25
   have H1 : (some true) = some r := by rw [if_pos rfl] at H; exact H
   clear H
   have H := H1
   clear H1
   obtain rfl := Option.some.inj H
   go_wp2
   go_ret
   exact ⟨by first | rfl | (simp [errW_none, errW_some] <;> rfl) | (simp [*, errW_none, errW_some] <;> rfl), by repeat (first | (with_reducible first | exact HB.out | apply below_alloc | apply pw_below_drewN | apply below_drew1) | exact HB.out)⟩
  ·replace c25 := Bool.eq_false_iff.mpr c25
   subst c25
   have H1 : ((dragomanlaw10_two.f (wrap64 (Int.tdiv a0 100))).bind fun t203 => ((dragomanlaw10_two.f a0).bind fun t204 => (if t203.size + t204.size ≤ 9223372036854775807 then (if (t203 ++ t204).size + 1 ≤ 9223372036854775807 then ((dragomanlaw10_two.f a1).bind fun t205 => (if ((t203 ++ t204) ++ (⟨#[45]⟩ : ByteArray)).size + t205.size ≤ 9223372036854775807 then (if (((t203 ++ t204) ++ (⟨#[45]⟩ : ByteArray)) ++ t205).size + 1 ≤ 9223372036854775807 then ((dragomanlaw10_two.f a2).bind fun t206 => (if ((((t203 ++ t204) ++ (⟨#[45]⟩ : ByteArray)) ++ t205) ++ (⟨#[45]⟩ : ByteArray)).size + t206.size ≤ 9223372036854775807 then ((dragomanlaw10_two.f a3).bind fun t207 => (if t207.size + 1 ≤ 9223372036854775807 then ((dragomanlaw10_two.f a4).bind fun t208 => (if (t207 ++ (⟨#[58]⟩ : ByteArray)).size + t208.size ≤ 9223372036854775807 then (if ((t207 ++ (⟨#[58]⟩ : ByteArray)) ++ t208).size + 1 ≤ 9223372036854775807 then ((dragomanlaw10_two.f a5).bind fun t209 => (if (((t207 ++ (⟨#[58]⟩ : ByteArray)) ++ t208) ++ (⟨#[58]⟩ : ByteArray)).size + t209.size ≤ 9223372036854775807 then ((some (([0, 31, 28, 31, 30, 31, 30, 31, 31, 30, 31, 30, 31, 0] : List Int) : List Int)).bind fun y210 => (if 0 ≤ a1 then (if a1 < (y210.length : Int) then (if a1 = 2 then (if (Int.tmod a0 4) = 0 then (if (Int.tmod a0 100) = 0 then (dragomanlaw10_TlexStamps.j1 kj9 a2 a3 a4 a5 a6 (((((t203 ++ t204) ++ (⟨#[45]⟩ : ByteArray)) ++ t205) ++ (⟨#[45]⟩ : ByteArray)) ++ t206) ((((t207 ++ (⟨#[58]⟩ : ByteArray)) ++ t208) ++ (⟨#[58]⟩ : ByteArray)) ++ t209) (rd y210 a1) ((Int.tmod a0 400) == 0)) else (dragomanlaw10_TlexStamps.j1 kj9 a2 a3 a4 a5 a6 (((((t203 ++ t204) ++ (⟨#[45]⟩ : ByteArray)) ++ t205) ++ (⟨#[45]⟩ : ByteArray)) ++ t206) ((((t207 ++ (⟨#[58]⟩ : ByteArray)) ++ t208) ++ (⟨#[58]⟩ : ByteArray)) ++ t209) (rd y210 a1) true)) else (dragomanlaw10_TlexStamps.j1 kj9 a2 a3 a4 a5 a6 (((((t203 ++ t204) ++ (⟨#[45]⟩ : ByteArray)) ++ t205) ++ (⟨#[45]⟩ : ByteArray)) ++ t206) ((((t207 ++ (⟨#[58]⟩ : ByteArray)) ++ t208) ++ (⟨#[58]⟩ : ByteArray)) ++ t209) (rd y210 a1) ((Int.tmod a0 400) == 0))) else (dragomanlaw10_TlexStamps.j1 kj9 a2 a3 a4 a5 a6 (((((t203 ++ t204) ++ (⟨#[45]⟩ : ByteArray)) ++ t205) ++ (⟨#[45]⟩ : ByteArray)) ++ t206) ((((t207 ++ (⟨#[58]⟩ : ByteArray)) ++ t208) ++ (⟨#[58]⟩ : ByteArray)) ++ t209) (rd y210 a1) false)) else (none)) else (none))) else (none))) else (none)) else (none))) else (none))) else (none))) else (none)) else (none))) else (none)) else (none)))) = some r := by rw [if_neg (show ¬ (false = true) by decide)] at H; exact H
   clear H
   have H := H1
   clear H1
   replace H := Option.bind_eq_some_iff.mp H
   obtain ⟨t203, A260, H⟩ := H
   replace H : ((dragomanlaw10_two.f a0).bind fun t204 => (if t203.size + t204.size ≤ 9223372036854775807 then (if (t203 ++ t204).size + 1 ≤ 9223372036854775807 then ((dragomanlaw10_two.f a1).bind fun t205 => (if ((t203 ++ t204) ++ (⟨#[45]⟩ : ByteArray)).size + t205.size ≤ 9223372036854775807 then (if (((t203 ++ t204) ++ (⟨#[45]⟩ : ByteArray)) ++ t205).size + 1 ≤ 9223372036854775807 then ((dragomanlaw10_two.f a2).bind fun t206 => (if ((((t203 ++ t204) ++ (⟨#[45]⟩ : ByteArray)) ++ t205) ++ (⟨#[45]⟩ : ByteArray)).size + t206.size ≤ 9223372036854775807 then ((dragomanlaw10_two.f a3).bind fun t207 => (if t207.size + 1 ≤ 9223372036854775807 then ((dragomanlaw10_two.f a4).bind fun t208 => (if (t207 ++ (⟨#[58]⟩ : ByteArray)).size + t208.size ≤ 9223372036854775807 then (if ((t207 ++ (⟨#[58]⟩ : ByteArray)) ++ t208).size + 1 ≤ 9223372036854775807 then ((dragomanlaw10_two.f a5).bind fun t209 => (if (((t207 ++ (⟨#[58]⟩ : ByteArray)) ++ t208) ++ (⟨#[58]⟩ : ByteArray)).size + t209.size ≤ 9223372036854775807 then ((some (([0, 31, 28, 31, 30, 31, 30, 31, 31, 30, 31, 30, 31, 0] : List Int) : List Int)).bind fun y210 => (if 0 ≤ a1 then (if a1 < (y210.length : Int) then (if a1 = 2 then (if (Int.tmod a0 4) = 0 then (if (Int.tmod a0 100) = 0 then (dragomanlaw10_TlexStamps.j1 kj9 a2 a3 a4 a5 a6 (((((t203 ++ t204) ++ (⟨#[45]⟩ : ByteArray)) ++ t205) ++ (⟨#[45]⟩ : ByteArray)) ++ t206) ((((t207 ++ (⟨#[58]⟩ : ByteArray)) ++ t208) ++ (⟨#[58]⟩ : ByteArray)) ++ t209) (rd y210 a1) ((Int.tmod a0 400) == 0)) else (dragomanlaw10_TlexStamps.j1 kj9 a2 a3 a4 a5 a6 (((((t203 ++ t204) ++ (⟨#[45]⟩ : ByteArray)) ++ t205) ++ (⟨#[45]⟩ : ByteArray)) ++ t206) ((((t207 ++ (⟨#[58]⟩ : ByteArray)) ++ t208) ++ (⟨#[58]⟩ : ByteArray)) ++ t209) (rd y210 a1) true)) else (dragomanlaw10_TlexStamps.j1 kj9 a2 a3 a4 a5 a6 (((((t203 ++ t204) ++ (⟨#[45]⟩ : ByteArray)) ++ t205) ++ (⟨#[45]⟩ : ByteArray)) ++ t206) ((((t207 ++ (⟨#[58]⟩ : ByteArray)) ++ t208) ++ (⟨#[58]⟩ : ByteArray)) ++ t209) (rd y210 a1) ((Int.tmod a0 400) == 0))) else (dragomanlaw10_TlexStamps.j1 kj9 a2 a3 a4 a5 a6 (((((t203 ++ t204) ++ (⟨#[45]⟩ : ByteArray)) ++ t205) ++ (⟨#[45]⟩ : ByteArray)) ++ t206) ((((t207 ++ (⟨#[58]⟩ : ByteArray)) ++ t208) ++ (⟨#[58]⟩ : ByteArray)) ++ t209) (rd y210 a1) false)) else (none)) else (none))) else (none))) else (none)) else (none))) else (none))) else (none))) else (none)) else (none))) else (none)) else (none))) = some r := H
   have A26 := Aside0.mk A260
   clear A260
   replace H := Option.bind_eq_some_iff.mp H
   obtain ⟨t204, A270, H⟩ := H
   replace H : (if t203.size + t204.size ≤ 9223372036854775807 then (if (t203 ++ t204).size + 1 ≤ 9223372036854775807 then ((dragomanlaw10_two.f a1).bind fun t205 => (if ((t203 ++ t204) ++ (⟨#[45]⟩ : ByteArray)).size + t205.size ≤ 9223372036854775807 then (if (((t203 ++ t204) ++ (⟨#[45]⟩ : ByteArray)) ++ t205).size + 1 ≤ 9223372036854775807 then ((dragomanlaw10_two.f a2).bind fun t206 => (if ((((t203 ++ t204) ++ (⟨#[45]⟩ : ByteArray)) ++ t205) ++ (⟨#[45]⟩ : ByteArray)).size + t206.size ≤ 9223372036854775807 then ((dragomanlaw10_two.f a3).bind fun t207 => (if t207.size + 1 ≤ 9223372036854775807 then ((dragomanlaw10_two.f a4).bind fun t208 => (if (t207 ++ (⟨#[58]⟩ : ByteArray)).size + t208.size ≤ 9223372036854775807 then (if ((t207 ++ (⟨#[58]⟩ : ByteArray)) ++ t208).size + 1 ≤ 9223372036854775807 then ((dragomanlaw10_two.f a5).bind fun t209 => (if (((t207 ++ (⟨#[58]⟩ : ByteArray)) ++ t208) ++ (⟨#[58]⟩ : ByteArray)).size + t209.size ≤ 9223372036854775807 then ((some (([0, 31, 28, 31, 30, 31, 30, 31, 31, 30, 31, 30, 31, 0] : List Int) : List Int)).bind fun y210 => (if 0 ≤ a1 then (if a1 < (y210.length : Int) then (if a1 = 2 then (if (Int.tmod a0 4) = 0 then (if (Int.tmod a0 100) = 0 then (dragomanlaw10_TlexStamps.j1 kj9 a2 a3 a4 a5 a6 (((((t203 ++ t204) ++ (⟨#[45]⟩ : ByteArray)) ++ t205) ++ (⟨#[45]⟩ : ByteArray)) ++ t206) ((((t207 ++ (⟨#[58]⟩ : ByteArray)) ++ t208) ++ (⟨#[58]⟩ : ByteArray)) ++ t209) (rd y210 a1) ((Int.tmod a0 400) == 0)) else (dragomanlaw10_TlexStamps.j1 kj9 a2 a3 a4 a5 a6 (((((t203 ++ t204) ++ (⟨#[45]⟩ : ByteArray)) ++ t205) ++ (⟨#[45]⟩ : ByteArray)) ++ t206) ((((t207 ++ (⟨#[58]⟩ : ByteArray)) ++ t208) ++ (⟨#[58]⟩ : ByteArray)) ++ t209) (rd y210 a1) true)) else (dragomanlaw10_TlexStamps.j1 kj9 a2 a3 a4 a5 a6 (((((t203 ++ t204) ++ (⟨#[45]⟩ : ByteArray)) ++ t205) ++ (⟨#[45]⟩ : ByteArray)) ++ t206) ((((t207 ++ (⟨#[58]⟩ : ByteArray)) ++ t208) ++ (⟨#[58]⟩ : ByteArray)) ++ t209) (rd y210 a1) ((Int.tmod a0 400) == 0))) else (dragomanlaw10_TlexStamps.j1 kj9 a2 a3 a4 a5 a6 (((((t203 ++ t204) ++ (⟨#[45]⟩ : ByteArray)) ++ t205) ++ (⟨#[45]⟩ : ByteArray)) ++ t206) ((((t207 ++ (⟨#[58]⟩ : ByteArray)) ++ t208) ++ (⟨#[58]⟩ : ByteArray)) ++ t209) (rd y210 a1) false)) else (none)) else (none))) else (none))) else (none)) else (none))) else (none))) else (none))) else (none)) else (none))) else (none)) else (none)) = some r := H
   have A27 := Aside0.mk A270
   clear A270
   by_cases c28 : t203.size + t204.size ≤ 9223372036854775807
   ·rw [if_pos c28] at H
    have c28b0 := eq_true c28
    have c28b1 : decide (t203.size + t204.size ≤ 9223372036854775807) = true := decide_eq_true c28
    try have c28b2 : (9223372036854775807 < t203.size + t204.size) = False := eq_false (Nat.not_lt.2 c28)
    by_cases c29 : (t203 ++ t204).size + 1 ≤ 9223372036854775807
    ·rw [if_pos c29] at H
     have c29b0 := eq_true c29
     have c29b1 : decide ((t203 ++ t204).size + 1 ≤ 9223372036854775807) = true := decide_eq_true c29
     try have c29b2 : (9223372036854775807 < (t203 ++ t204).size + 1) = False := eq_false (Nat.not_lt.2 c29)
     try (have c29b3q := c29b2; simp only [ByteArray.size_append, sz45, sz58, sz84, sz90, sz32, sz43, sz46_53, sz58_51_48, sz32_35_32_120] at c29b3q)
     replace H := Option.bind_eq_some_iff.mp H
     obtain ⟨t205, A300, H⟩ := H
     replace H : (if ((t203 ++ t204) ++ (⟨#[45]⟩ : ByteArray)).size + t205.size ≤ 9223372036854775807 then (if (((t203 ++ t204) ++ (⟨#[45]⟩ : ByteArray)) ++ t205).size + 1 ≤ 9223372036854775807 then ((dragomanlaw10_two.f a2).bind fun t206 => (if ((((t203 ++ t204) ++ (⟨#[45]⟩ : ByteArray)) ++ t205) ++ (⟨#[45]⟩ : ByteArray)).size + t206.size ≤ 9223372036854775807 then ((dragomanlaw10_two.f a3).bind fun t207 => (if t207.size + 1 ≤ 9223372036854775807 then ((dragomanlaw10_two.f a4).bind fun t208 => (if (t207 ++ (⟨#[58]⟩ : ByteArray)).size + t208.size ≤ 9223372036854775807 then (if ((t207 ++ (⟨#[58]⟩ : ByteArray)) ++ t208).size + 1 ≤ 9223372036854775807 then ((dragomanlaw10_two.f a5).bind fun t209 => (if (((t207 ++ (⟨#[58]⟩ : ByteArray)) ++ t208) ++ (⟨#[58]⟩ : ByteArray)).size + t209.size ≤ 9223372036854775807 then ((some (([0, 31, 28, 31, 30, 31, 30, 31, 31, 30, 31, 30, 31, 0] : List Int) : List Int)).bind fun y210 => (if 0 ≤ a1 then (if a1 < (y210.length : Int) then (if a1 = 2 then (if (Int.tmod a0 4) = 0 then (if (Int.tmod a0 100) = 0 then (dragomanlaw10_TlexStamps.j1 kj9 a2 a3 a4 a5 a6 (((((t203 ++ t204) ++ (⟨#[45]⟩ : ByteArray)) ++ t205) ++ (⟨#[45]⟩ : ByteArray)) ++ t206) ((((t207 ++ (⟨#[58]⟩ : ByteArray)) ++ t208) ++ (⟨#[58]⟩ : ByteArray)) ++ t209) (rd y210 a1) ((Int.tmod a0 400) == 0)) else (dragomanlaw10_TlexStamps.j1 kj9 a2 a3 a4 a5 a6 (((((t203 ++ t204) ++ (⟨#[45]⟩ : ByteArray)) ++ t205) ++ (⟨#[45]⟩ : ByteArray)) ++ t206) ((((t207 ++ (⟨#[58]⟩ : ByteArray)) ++ t208) ++ (⟨#[58]⟩ : ByteArray)) ++ t209) (rd y210 a1) true)) else (dragomanlaw10_TlexStamps.j1 kj9 a2 a3 a4 a5 a6 (((((t203 ++ t204) ++ (⟨#[45]⟩ : ByteArray)) ++ t205) ++ (⟨#[45]⟩ : ByteArray)) ++ t206) ((((t207 ++ (⟨#[58]⟩ : ByteArray)) ++ t208) ++ (⟨#[58]⟩ : ByteArray)) ++ t209) (rd y210 a1) ((Int.tmod a0 400) == 0))) else (dragomanlaw10_TlexStamps.j1 kj9 a2 a3 a4 a5 a6 (((((t203 ++ t204) ++ (⟨#[45]⟩ : ByteArray)) ++ t205) ++ (⟨#[45]⟩ : ByteArray)) ++ t206) ((((t207 ++ (⟨#[58]⟩ : ByteArray)) ++ t208) ++ (⟨#[58]⟩ : ByteArray)) ++ t209) (rd y210 a1) false)) else (none)) else (none))) else (none))) else (none)) else (none))) else (none))) else (none))) else (none)) else (none)) = some r := H
     have A30 := Aside0.mk A300
     clear A300
     by_cases c31 : ((t203 ++ t204) ++ (⟨#[45]⟩ : ByteArray)).size + t205.size ≤ 9223372036854775807
     ·rw [if_pos c31] at H
      have c31b0 := eq_true c31
      have c31b1 : decide (((t203 ++ t204) ++ (⟨#[45]⟩ : ByteArray)).size + t205.size ≤ 9223372036854775807) = true := decide_eq_true c31
      try have c31b2 : (9223372036854775807 < ((t203 ++ t204) ++ (⟨#[45]⟩ : ByteArray)).size + t205.size) = False := eq_false (Nat.not_lt.2 c31)
      try (have c31b3q := c31b2; simp only [ByteArray.size_append, sz45, sz58, sz84, sz90, sz32, sz43, sz46_53, sz58_51_48, sz32_35_32_120] at c31b3q)
      by_cases c32 : (((t203 ++ t204) ++ (⟨#[45]⟩ : ByteArray)) ++ t205).size + 1 ≤ 9223372036854775807
      ·rw [if_pos c32] at H
       have c32b0 := eq_true c32
       have c32b1 : decide ((((t203 ++ t204) ++ (⟨#[45]⟩ : ByteArray)) ++ t205).size + 1 ≤ 9223372036854775807) = true := decide_eq_true c32
       try have c32b2 : (9223372036854775807 < (((t203 ++ t204) ++ (⟨#[45]⟩ : ByteArray)) ++ t205).size + 1) = False := eq_false (Nat.not_lt.2 c32)
       try (have c32b3q := c32b2; simp only [ByteArray.size_append, sz45, sz58, sz84, sz90, sz32, sz43, sz46_53, sz58_51_48, sz32_35_32_120] at c32b3q)
       replace H := Option.bind_eq_some_iff.mp H
       obtain ⟨t206, A330, H⟩ := H
       replace H : (if ((((t203 ++ t204) ++ (⟨#[45]⟩ : ByteArray)) ++ t205) ++ (⟨#[45]⟩ : ByteArray)).size + t206.size ≤ 9223372036854775807 then ((dragomanlaw10_two.f a3).bind fun t207 => (if t207.size + 1 ≤ 9223372036854775807 then ((dragomanlaw10_two.f a4).bind fun t208 => (if (t207 ++ (⟨#[58]⟩ : ByteArray)).size + t208.size ≤ 9223372036854775807 then (if ((t207 ++ (⟨#[58]⟩ : ByteArray)) ++ t208).size + 1 ≤ 9223372036854775807 then ((dragomanlaw10_two.f a5).bind fun t209 => (if (((t207 ++ (⟨#[58]⟩ : ByteArray)) ++ t208) ++ (⟨#[58]⟩ : ByteArray)).size + t209.size ≤ 9223372036854775807 then ((some (([0, 31, 28, 31, 30, 31, 30, 31, 31, 30, 31, 30, 31, 0] : List Int) : List Int)).bind fun y210 => (if 0 ≤ a1 then (if a1 < (y210.length : Int) then (if a1 = 2 then (if (Int.tmod a0 4) = 0 then (if (Int.tmod a0 100) = 0 then (dragomanlaw10_TlexStamps.j1 kj9 a2 a3 a4 a5 a6 (((((t203 ++ t204) ++ (⟨#[45]⟩ : ByteArray)) ++ t205) ++ (⟨#[45]⟩ : ByteArray)) ++ t206) ((((t207 ++ (⟨#[58]⟩ : ByteArray)) ++ t208) ++ (⟨#[58]⟩ : ByteArray)) ++ t209) (rd y210 a1) ((Int.tmod a0 400) == 0)) else (dragomanlaw10_TlexStamps.j1 kj9 a2 a3 a4 a5 a6 (((((t203 ++ t204) ++ (⟨#[45]⟩ : ByteArray)) ++ t205) ++ (⟨#[45]⟩ : ByteArray)) ++ t206) ((((t207 ++ (⟨#[58]⟩ : ByteArray)) ++ t208) ++ (⟨#[58]⟩ : ByteArray)) ++ t209) (rd y210 a1) true)) else (dragomanlaw10_TlexStamps.j1 kj9 a2 a3 a4 a5 a6 (((((t203 ++ t204) ++ (⟨#[45]⟩ : ByteArray)) ++ t205) ++ (⟨#[45]⟩ : ByteArray)) ++ t206) ((((t207 ++ (⟨#[58]⟩ : ByteArray)) ++ t208) ++ (⟨#[58]⟩ : ByteArray)) ++ t209) (rd y210 a1) ((Int.tmod a0 400) == 0))) else (dragomanlaw10_TlexStamps.j1 kj9 a2 a3 a4 a5 a6 (((((t203 ++ t204) ++ (⟨#[45]⟩ : ByteArray)) ++ t205) ++ (⟨#[45]⟩ : ByteArray)) ++ t206) ((((t207 ++ (⟨#[58]⟩ : ByteArray)) ++ t208) ++ (⟨#[58]⟩ : ByteArray)) ++ t209) (rd y210 a1) false)) else (none)) else (none))) else (none))) else (none)) else (none))) else (none))) else (none)) = some r := H
       have A33 := Aside0.mk A330
       clear A330
       by_cases c34 : ((((t203 ++ t204) ++ (⟨#[45]⟩ : ByteArray)) ++ t205) ++ (⟨#[45]⟩ : ByteArray)).size + t206.size ≤ 9223372036854775807
       ·rw [if_pos c34] at H
        have c34b0 := eq_true c34
        have c34b1 : decide (((((t203 ++ t204) ++ (⟨#[45]⟩ : ByteArray)) ++ t205) ++ (⟨#[45]⟩ : ByteArray)).size + t206.size ≤ 9223372036854775807) = true := decide_eq_true c34
        try have c34b2 : (9223372036854775807 < ((((t203 ++ t204) ++ (⟨#[45]⟩ : ByteArray)) ++ t205) ++ (⟨#[45]⟩ : ByteArray)).size + t206.size) = False := eq_false (Nat.not_lt.2 c34)
        try (have c34b3q := c34b2; simp only [ByteArray.size_append, sz45, sz58, sz84, sz90, sz32, sz43, sz46_53, sz58_51_48, sz32_35_32_120] at c34b3q)
        replace H := Option.bind_eq_some_iff.mp H
        obtain ⟨t207, A350, H⟩ := H
        replace H : (if t207.size + 1 ≤ 9223372036854775807 then ((dragomanlaw10_two.f a4).bind fun t208 => (if (t207 ++ (⟨#[58]⟩ : ByteArray)).size + t208.size ≤ 9223372036854775807 then (if ((t207 ++ (⟨#[58]⟩ : ByteArray)) ++ t208).size + 1 ≤ 9223372036854775807 then ((dragomanlaw10_two.f a5).bind fun t209 => (if (((t207 ++ (⟨#[58]⟩ : ByteArray)) ++ t208) ++ (⟨#[58]⟩ : ByteArray)).size + t209.size ≤ 9223372036854775807 then ((some (([0, 31, 28, 31, 30, 31, 30, 31, 31, 30, 31, 30, 31, 0] : List Int) : List Int)).bind fun y210 => (if 0 ≤ a1 then (if a1 < (y210.length : Int) then (if a1 = 2 then (if (Int.tmod a0 4) = 0 then (if (Int.tmod a0 100) = 0 then (dragomanlaw10_TlexStamps.j1 kj9 a2 a3 a4 a5 a6 (((((t203 ++ t204) ++ (⟨#[45]⟩ : ByteArray)) ++ t205) ++ (⟨#[45]⟩ : ByteArray)) ++ t206) ((((t207 ++ (⟨#[58]⟩ : ByteArray)) ++ t208) ++ (⟨#[58]⟩ : ByteArray)) ++ t209) (rd y210 a1) ((Int.tmod a0 400) == 0)) else (dragomanlaw10_TlexStamps.j1 kj9 a2 a3 a4 a5 a6 (((((t203 ++ t204) ++ (⟨#[45]⟩ : ByteArray)) ++ t205) ++ (⟨#[45]⟩ : ByteArray)) ++ t206) ((((t207 ++ (⟨#[58]⟩ : ByteArray)) ++ t208) ++ (⟨#[58]⟩ : ByteArray)) ++ t209) (rd y210 a1) true)) else (dragomanlaw10_TlexStamps.j1 kj9 a2 a3 a4 a5 a6 (((((t203 ++ t204) ++ (⟨#[45]⟩ : ByteArray)) ++ t205) ++ (⟨#[45]⟩ : ByteArray)) ++ t206) ((((t207 ++ (⟨#[58]⟩ : ByteArray)) ++ t208) ++ (⟨#[58]⟩ : ByteArray)) ++ t209) (rd y210 a1) ((Int.tmod a0 400) == 0))) else (dragomanlaw10_TlexStamps.j1 kj9 a2 a3 a4 a5 a6 (((((t203 ++ t204) ++ (⟨#[45]⟩ : ByteArray)) ++ t205) ++ (⟨#[45]⟩ : ByteArray)) ++ t206) ((((t207 ++ (⟨#[58]⟩ : ByteArray)) ++ t208) ++ (⟨#[58]⟩ : ByteArray)) ++ t209) (rd y210 a1) false)) else (none)) else (none))) else (none))) else (none)) else (none))) else (none)) = some r := H
        have A35 := Aside0.mk A350
        clear A350
        by_cases c36 : t207.size + 1 ≤ 9223372036854775807
        ·rw [if_pos c36] at H
         have c36b0 := eq_true c36
         have c36b1 : decide (t207.size + 1 ≤ 9223372036854775807) = true := decide_eq_true c36
         try have c36b2 : (9223372036854775807 < t207.size + 1) = False := eq_false (Nat.not_lt.2 c36)
         replace H := Option.bind_eq_some_iff.mp H
         obtain ⟨t208, A370, H⟩ := H
         replace H : (if (t207 ++ (⟨#[58]⟩ : ByteArray)).size + t208.size ≤ 9223372036854775807 then (if ((t207 ++ (⟨#[58]⟩ : ByteArray)) ++ t208).size + 1 ≤ 9223372036854775807 then ((dragomanlaw10_two.f a5).bind fun t209 => (if (((t207 ++ (⟨#[58]⟩ : ByteArray)) ++ t208) ++ (⟨#[58]⟩ : ByteArray)).size + t209.size ≤ 9223372036854775807 then ((some (([0, 31, 28, 31, 30, 31, 30, 31, 31, 30, 31, 30, 31, 0] : List Int) : List Int)).bind fun y210 => (if 0 ≤ a1 then (if a1 < (y210.length : Int) then (if a1 = 2 then (if (Int.tmod a0 4) = 0 then (if (Int.tmod a0 100) = 0 then (dragomanlaw10_TlexStamps.j1 kj9 a2 a3 a4 a5 a6 (((((t203 ++ t204) ++ (⟨#[45]⟩ : ByteArray)) ++ t205) ++ (⟨#[45]⟩ : ByteArray)) ++ t206) ((((t207 ++ (⟨#[58]⟩ : ByteArray)) ++ t208) ++ (⟨#[58]⟩ : ByteArray)) ++ t209) (rd y210 a1) ((Int.tmod a0 400) == 0)) else (dragomanlaw10_TlexStamps.j1 kj9 a2 a3 a4 a5 a6 (((((t203 ++ t204) ++ (⟨#[45]⟩ : ByteArray)) ++ t205) ++ (⟨#[45]⟩ : ByteArray)) ++ t206) ((((t207 ++ (⟨#[58]⟩ : ByteArray)) ++ t208) ++ (⟨#[58]⟩ : ByteArray)) ++ t209) (rd y210 a1) true)) else (dragomanlaw10_TlexStamps.j1 kj9 a2 a3 a4 a5 a6 (((((t203 ++ t204) ++ (⟨#[45]⟩ : ByteArray)) ++ t205) ++ (⟨#[45]⟩ : ByteArray)) ++ t206) ((((t207 ++ (⟨#[58]⟩ : ByteArray)) ++ t208) ++ (⟨#[58]⟩ : ByteArray)) ++ t209) (rd y210 a1) ((Int.tmod a0 400) == 0))) else (dragomanlaw10_TlexStamps.j1 kj9 a2 a3 a4 a5 a6 (((((t203 ++ t204) ++ (⟨#[45]⟩ : ByteArray)) ++ t205) ++ (⟨#[45]⟩ : ByteArray)) ++ t206) ((((t207 ++ (⟨#[58]⟩ : ByteArray)) ++ t208) ++ (⟨#[58]⟩ : ByteArray)) ++ t209) (rd y210 a1) false)) else (none)) else (none))) else (none))) else (none)) else (none)) = some r := H
         have A37 := Aside0.mk A370
         clear A370
         by_cases c38 : (t207 ++ (⟨#[58]⟩ : ByteArray)).size + t208.size ≤ 9223372036854775807
         ·rw [if_pos c38] at H
          have c38b0 := eq_true c38
          have c38b1 : decide ((t207 ++ (⟨#[58]⟩ : ByteArray)).size + t208.size ≤ 9223372036854775807) = true := decide_eq_true c38
          try have c38b2 : (9223372036854775807 < (t207 ++ (⟨#[58]⟩ : ByteArray)).size + t208.size) = False := eq_false (Nat.not_lt.2 c38)
          try (have c38b3q := c38b2; simp only [ByteArray.size_append, sz45, sz58, sz84, sz90, sz32, sz43, sz46_53, sz58_51_48, sz32_35_32_120] at c38b3q)
          by_cases c39 : ((t207 ++ (⟨#[58]⟩ : ByteArray)) ++ t208).size + 1 ≤ 9223372036854775807
          ·rw [if_pos c39] at H
           have c39b0 := eq_true c39
           have c39b1 : decide (((t207 ++ (⟨#[58]⟩ : ByteArray)) ++ t208).size + 1 ≤ 9223372036854775807) = true := decide_eq_true c39
           try have c39b2 : (9223372036854775807 < ((t207 ++ (⟨#[58]⟩ : ByteArray)) ++ t208).size + 1) = False := eq_false (Nat.not_lt.2 c39)
           try (have c39b3q := c39b2; simp only [ByteArray.size_append, sz45, sz58, sz84, sz90, sz32, sz43, sz46_53, sz58_51_48, sz32_35_32_120] at c39b3q)
           replace H := Option.bind_eq_some_iff.mp H
           obtain ⟨t209, A400, H⟩ := H
           replace H : (if (((t207 ++ (⟨#[58]⟩ : ByteArray)) ++ t208) ++ (⟨#[58]⟩ : ByteArray)).size + t209.size ≤ 9223372036854775807 then ((some (([0, 31, 28, 31, 30, 31, 30, 31, 31, 30, 31, 30, 31, 0] : List Int) : List Int)).bind fun y210 => (if 0 ≤ a1 then (if a1 < (y210.length : Int) then (if a1 = 2 then (if (Int.tmod a0 4) = 0 then (if (Int.tmod a0 100) = 0 then (dragomanlaw10_TlexStamps.j1 kj9 a2 a3 a4 a5 a6 (((((t203 ++ t204) ++ (⟨#[45]⟩ : ByteArray)) ++ t205) ++ (⟨#[45]⟩ : ByteArray)) ++ t206) ((((t207 ++ (⟨#[58]⟩ : ByteArray)) ++ t208) ++ (⟨#[58]⟩ : ByteArray)) ++ t209) (rd y210 a1) ((Int.tmod a0 400) == 0)) else (dragomanlaw10_TlexStamps.j1 kj9 a2 a3 a4 a5 a6 (((((t203 ++ t204) ++ (⟨#[45]⟩ : ByteArray)) ++ t205) ++ (⟨#[45]⟩ : ByteArray)) ++ t206) ((((t207 ++ (⟨#[58]⟩ : ByteArray)) ++ t208) ++ (⟨#[58]⟩ : ByteArray)) ++ t209) (rd y210 a1) true)) else (dragomanlaw10_TlexStamps.j1 kj9 a2 a3 a4 a5 a6 (((((t203 ++ t204) ++ (⟨#[45]⟩ : ByteArray)) ++ t205) ++ (⟨#[45]⟩ : ByteArray)) ++ t206) ((((t207 ++ (⟨#[58]⟩ : ByteArray)) ++ t208) ++ (⟨#[58]⟩ : ByteArray)) ++ t209) (rd y210 a1) ((Int.tmod a0 400) == 0))) else (dragomanlaw10_TlexStamps.j1 kj9 a2 a3 a4 a5 a6 (((((t203 ++ t204) ++ (⟨#[45]⟩ : ByteArray)) ++ t205) ++ (⟨#[45]⟩ : ByteArray)) ++ t206) ((((t207 ++ (⟨#[58]⟩ : ByteArray)) ++ t208) ++ (⟨#[58]⟩ : ByteArray)) ++ t209) (rd y210 a1) false)) else (none)) else (none))) else (none)) = some r := H
           have A40 := Aside0.mk A400
           clear A400
           by_cases c41 : (((t207 ++ (⟨#[58]⟩ : ByteArray)) ++ t208) ++ (⟨#[58]⟩ : ByteArray)).size + t209.size ≤ 9223372036854775807
           ·rw [if_pos c41] at H
            have c41b0 := eq_true c41
            have c41b1 : decide ((((t207 ++ (⟨#[58]⟩ : ByteArray)) ++ t208) ++ (⟨#[58]⟩ : ByteArray)).size + t209.size ≤ 9223372036854775807) = true := decide_eq_true c41
            try have c41b2 : (9223372036854775807 < (((t207 ++ (⟨#[58]⟩ : ByteArray)) ++ t208) ++ (⟨#[58]⟩ : ByteArray)).size + t209.size) = False := eq_false (Nat.not_lt.2 c41)
            try (have c41b3q := c41b2; simp only [ByteArray.size_append, sz45, sz58, sz84, sz90, sz32, sz43, sz46_53, sz58_51_48, sz32_35_32_120] at c41b3q)
            obtain ⟨y210, hy210⟩ : ∃ y_ : List Int, y_ = (([0, 31, 28, 31, 30, 31, 30, 31, 31, 30, 31, 30, 31, 0] : List Int)) := ⟨_, rfl⟩
            replace H : (if 0 ≤ a1 then (if a1 < (y210.length : Int) then (if a1 = 2 then (if (Int.tmod a0 4) = 0 then (if (Int.tmod a0 100) = 0 then (dragomanlaw10_TlexStamps.j1 kj9 a2 a3 a4 a5 a6 (((((t203 ++ t204) ++ (⟨#[45]⟩ : ByteArray)) ++ t205) ++ (⟨#[45]⟩ : ByteArray)) ++ t206) ((((t207 ++ (⟨#[58]⟩ : ByteArray)) ++ t208) ++ (⟨#[58]⟩ : ByteArray)) ++ t209) (rd y210 a1) ((Int.tmod a0 400) == 0)) else (dragomanlaw10_TlexStamps.j1 kj9 a2 a3 a4 a5 a6 (((((t203 ++ t204) ++ (⟨#[45]⟩ : ByteArray)) ++ t205) ++ (⟨#[45]⟩ : ByteArray)) ++ t206) ((((t207 ++ (⟨#[58]⟩ : ByteArray)) ++ t208) ++ (⟨#[58]⟩ : ByteArray)) ++ t209) (rd y210 a1) true)) else (dragomanlaw10_TlexStamps.j1 kj9 a2 a3 a4 a5 a6 (((((t203 ++ t204) ++ (⟨#[45]⟩ : ByteArray)) ++ t205) ++ (⟨#[45]⟩ : ByteArray)) ++ t206) ((((t207 ++ (⟨#[58]⟩ : ByteArray)) ++ t208) ++ (⟨#[58]⟩ : ByteArray)) ++ t209) (rd y210 a1) ((Int.tmod a0 400) == 0))) else (dragomanlaw10_TlexStamps.j1 kj9 a2 a3 a4 a5 a6 (((((t203 ++ t204) ++ (⟨#[45]⟩ : ByteArray)) ++ t205) ++ (⟨#[45]⟩ : ByteArray)) ++ t206) ((((t207 ++ (⟨#[58]⟩ : ByteArray)) ++ t208) ++ (⟨#[58]⟩ : ByteArray)) ++ t209) (rd y210 a1) false)) else (none)) else (none)) = some r := by first | (rw [hy210]; with_reducible exact H) | (have H2_ := (Option.bind_some _ _).symm.trans H; rw [hy210]; with_reducible exact H2_) | (have H2_ := (Option.bind_some _ _).symm.trans H; with_reducible exact H2_) | with_reducible exact H | (rw [hy210]; exact H) | exact H
            have Ny210 := Aside0.mk hy210
            clear hy210
            by_cases c42 : 0 ≤ a1
            ·rw [if_pos c42] at H
             have c42b0 : decide (0 ≤ a1) = true := decide_eq_true c42
             clear c42
             by_cases c43 : a1 < (y210.length : Int)
             ·rw [if_pos c43] at H
              have c43b0 : decide (a1 < (y210.length : Int)) = true := decide_eq_true c43
              clear c43
              have HC44 := Aside0.mk H
              clear H
              go_upto_region 8 with (first | ((with_reducible refine gate_callee (f := 19) rfl ?_); refine goesL_ (some 82) rfl rfl Tryz.func19 (by kernel_rfl) rfl #[.int .i64 (wrap64 (Int.tdiv a0 100))] rfl (by (try simp only [List.map_toArray, List.map_cons, List.map_nil]); first | done | rfl | (simp only [List.length_drop, List.length_take]; rfl)) ?_; (with_reducible refine (dragomanlaw10_two.calls (wrap64 (Int.tdiv a0 100)) t203 _ A26.out).mono ?_); rintro e w45 ⟨rfl, hb⟩; refine ⟨_, rfl, ?_⟩; have n0_ := Aside0.mk (below_step (by repeat (first | (with_reducible first | exact HB.out | apply below_alloc | apply pw_below_drewN | apply below_drew1) | exact HB.out)) hb); clear HB; have HB := n0_; clear n0_; (try clear hb); (try clear hb2); (try clear hk); (try clear hi)) | ((with_reducible refine gate_callee (f := 19) rfl ?_); refine goesL_ (some 84) rfl rfl Tryz.func19 (by kernel_rfl) rfl #[.int .i64 a0] rfl (by (try simp only [List.map_toArray, List.map_cons, List.map_nil]); first | done | rfl | (simp only [List.length_drop, List.length_take]; rfl)) ?_; (with_reducible refine (dragomanlaw10_two.calls a0 t204 _ A27.out).mono ?_); rintro e w46 ⟨rfl, hb⟩; refine ⟨_, rfl, ?_⟩; have n0_ := Aside0.mk (below_step (by repeat (first | (with_reducible first | exact HB.out | apply below_alloc | apply pw_below_drewN | apply below_drew1) | exact HB.out)) hb); clear HB; have HB := n0_; clear n0_; (try clear hb); (try clear hb2); (try clear hk); (try clear hi)) | ((with_reducible refine gate_callee (f := 19) rfl ?_); refine goesL_ (some 88) rfl rfl Tryz.func19 (by kernel_rfl) rfl #[.int .i64 a1] rfl (by (try simp only [List.map_toArray, List.map_cons, List.map_nil]); first | done | rfl | (simp only [List.length_drop, List.length_take]; rfl)) ?_; (with_reducible refine (dragomanlaw10_two.calls a1 t205 _ A30.out).mono ?_); rintro e w47 ⟨rfl, hb⟩; refine ⟨_, rfl, ?_⟩; have n0_ := Aside0.mk (below_step (by repeat (first | (with_reducible first | exact HB.out | apply below_alloc | apply pw_below_drewN | apply below_drew1) | exact HB.out)) hb); clear HB; have HB := n0_; clear n0_; (try clear hb); (try clear hb2); (try clear hk); (try clear hi)) | ((with_reducible refine gate_callee (f := 19) rfl ?_); refine goesL_ (some 92) rfl rfl Tryz.func19 (by kernel_rfl) rfl #[.int .i64 a2] rfl (by (try simp only [List.map_toArray, List.map_cons, List.map_nil]); first | done | rfl | (simp only [List.length_drop, List.length_take]; rfl)) ?_; (with_reducible refine (dragomanlaw10_two.calls a2 t206 _ A33.out).mono ?_); rintro e w48 ⟨rfl, hb⟩; refine ⟨_, rfl, ?_⟩; have n0_ := Aside0.mk (below_step (by repeat (first | (with_reducible first | exact HB.out | apply below_alloc | apply pw_below_drewN | apply below_drew1) | exact HB.out)) hb); clear HB; have HB := n0_; clear n0_; (try clear hb); (try clear hb2); (try clear hk); (try clear hi)) | ((with_reducible refine gate_callee (f := 19) rfl ?_); refine goesL_ (some 95) rfl rfl Tryz.func19 (by kernel_rfl) rfl #[.int .i64 a3] rfl (by (try simp only [List.map_toArray, List.map_cons, List.map_nil]); first | done | rfl | (simp only [List.length_drop, List.length_take]; rfl)) ?_; (with_reducible refine (dragomanlaw10_two.calls a3 t207 _ A35.out).mono ?_); rintro e w49 ⟨rfl, hb⟩; refine ⟨_, rfl, ?_⟩; have n0_ := Aside0.mk (below_step (by repeat (first | (with_reducible first | exact HB.out | apply below_alloc | apply pw_below_drewN | apply below_drew1) | exact HB.out)) hb); clear HB; have HB := n0_; clear n0_; (try clear hb); (try clear hb2); (try clear hk); (try clear hi)) | ((with_reducible refine gate_callee (f := 19) rfl ?_); refine goesL_ (some 98) rfl rfl Tryz.func19 (by kernel_rfl) rfl #[.int .i64 a4] rfl (by (try simp only [List.map_toArray, List.map_cons, List.map_nil]); first | done | rfl | (simp only [List.length_drop, List.length_take]; rfl)) ?_; (with_reducible refine (dragomanlaw10_two.calls a4 t208 _ A37.out).mono ?_); rintro e w50 ⟨rfl, hb⟩; refine ⟨_, rfl, ?_⟩; have n0_ := Aside0.mk (below_step (by repeat (first | (with_reducible first | exact HB.out | apply below_alloc | apply pw_below_drewN | apply below_drew1) | exact HB.out)) hb); clear HB; have HB := n0_; clear n0_; (try clear hb); (try clear hb2); (try clear hk); (try clear hi)) | ((with_reducible refine gate_callee (f := 19) rfl ?_); refine goesL_ (some 102) rfl rfl Tryz.func19 (by kernel_rfl) rfl #[.int .i64 a5] rfl (by (try simp only [List.map_toArray, List.map_cons, List.map_nil]); first | done | rfl | (simp only [List.length_drop, List.length_take]; rfl)) ?_; (with_reducible refine (dragomanlaw10_two.calls a5 t209 _ A40.out).mono ?_); rintro e w51 ⟨rfl, hb⟩; refine ⟨_, rfl, ?_⟩; have n0_ := Aside0.mk (below_step (by repeat (first | (with_reducible first | exact HB.out | apply below_alloc | apply pw_below_drewN | apply below_drew1) | exact HB.out)) hb); clear HB; have HB := n0_; clear n0_; (try clear hb); (try clear hb2); (try clear hk); (try clear hi)) | ((with_reducible refine gate_dst (N := 104) rfl ?_); refine Kd.R_lit (Kd.int .i64) _ 3 ?hg (N := 104) ?hd (xs := ([0, 31, 28, 31, 30, 31, 30, 31, 31, 30, 31, 30, 31, 0] : List Int)) (inner := [.int .i64 0, .int .i64 31, .int .i64 28, .int .i64 31, .int .i64 30, .int .i64 31, .int .i64 30, .int .i64 31, .int .i64 31, .int .i64 30, .int .i64 31, .int .i64 30, .int .i64 31, .int .i64 0]) (ok := fun _ => True) (okp := fun _ => True) ?hr ?hp (fun _ hk => hk) trivial (Below.refl _ _) (Nat.le_refl _) (by simp) ?_; (case hd => rfl); (case hg => rfl); (case hr => first | (go_simp; done) | (go_simp; rfl)); (case hp => exact (Reps.one (show Kd.M (Kd.int .i64) _ _ _ 0 [.int .i64 0] from rfl) (Reps.one (show Kd.M (Kd.int .i64) _ _ _ 31 [.int .i64 31] from rfl) (Reps.one (show Kd.M (Kd.int .i64) _ _ _ 28 [.int .i64 28] from rfl) (Reps.one (show Kd.M (Kd.int .i64) _ _ _ 31 [.int .i64 31] from rfl) (Reps.one (show Kd.M (Kd.int .i64) _ _ _ 30 [.int .i64 30] from rfl) (Reps.one (show Kd.M (Kd.int .i64) _ _ _ 31 [.int .i64 31] from rfl) (Reps.one (show Kd.M (Kd.int .i64) _ _ _ 30 [.int .i64 30] from rfl) (Reps.one (show Kd.M (Kd.int .i64) _ _ _ 31 [.int .i64 31] from rfl) (Reps.one (show Kd.M (Kd.int .i64) _ _ _ 31 [.int .i64 31] from rfl) (Reps.one (show Kd.M (Kd.int .i64) _ _ _ 30 [.int .i64 30] from rfl) (Reps.one (show Kd.M (Kd.int .i64) _ _ _ 31 [.int .i64 31] from rfl) (Reps.one (show Kd.M (Kd.int .i64) _ _ _ 30 [.int .i64 30] from rfl) (Reps.one (show Kd.M (Kd.int .i64) _ _ _ 31 [.int .i64 31] from rfl) (Reps.one (show Kd.M (Kd.int .i64) _ _ _ 0 [.int .i64 0] from rfl) (Reps.none _ _)))))))))))))))); intro v211 w52 ho53 hb hg_ hnew_; clear hg_ hnew_; (first | rw [← Ny210.out] at ho53 | (simp only [Int.reduceToNat] at ho53; rw [← Ny210.out] at ho53)); have n0_ := Aside0.mk (Kd.R_lower ho53 (below_size (by repeat (first | (with_reducible first | exact HB.out | apply below_alloc | apply pw_below_drewN | apply below_drew1) | exact HB.out)))); have n1_ := Aside0.mk (below_step (by repeat (first | (with_reducible first | exact HB.out | apply below_alloc | apply pw_below_drewN | apply below_drew1) | exact HB.out)) hb); clear HB; have HO212 := n0_; have HB := n1_; clear n0_ n1_; clear hb ho53; obtain ⟨Ao54, co54, eo54⟩ := Kd.R_slice HO212.out; subst eo54; have p213 : 0 ≤ (a1 : Int) := of_decide_eq_true (by first | (with_reducible assumption) | assumption); have q213 : a1 < (y210.length : Int) := of_decide_eq_true (by first | (with_reducible assumption) | assumption); obtain ⟨ad213, e213, hx213_0⟩ := Kd.at_int (Kd.R_reads' HO212.out).2.2 a1 p213 q213; cases e213; replace p213 := eq_true p213; replace q213 := eq_true q213))
              (try simp only [Act.put, List.setIfInBounds_toArray, List.set_cons_zero, List.set_cons_succ])
              go_cut [124] (fun v124 wc => ∃ (kq : Nat) (x124_43 : Bool), v124 = .bool x124_43 ∧ Aside0 (dragomanlaw10_TlexStamps.j1 kq a2 a3 a4 a5 a6 (((((t203 ++ t204) ++ (⟨#[45]⟩ : ByteArray)) ++ t205) ++ (⟨#[45]⟩ : ByteArray)) ++ t206) ((((t207 ++ (⟨#[58]⟩ : ByteArray)) ++ t208) ++ (⟨#[58]⟩ : ByteArray)) ++ t209) (rd y210 a1) x124_43 = some r) ∧ Aside0 (kq ≤ kj9) ∧ Aside0 (Below w.heap.size w wc))
              case first =>
               have H := HC44.out
               clear HC44
               by_cases c55 : a1 = 2
               ·rw [if_pos c55] at H
                have c55b0 : (a1 == 2) = true := beq_iff_eq.mpr c55
                have c55b1 : (a1 != 2) = false := bne_eq_false_iff_eq.mpr c55
                clear c55
                (first | rw [c55b0] | (simp only [i64_w, i32_w]; rw [c55b0]) | skip)
                by_cases c56 : (Int.tmod a0 4) = 0
                ·rw [if_pos c56] at H
                 have c56b0 : ((Int.tmod a0 4) == 0) = true := beq_iff_eq.mpr c56
                 have c56b1 : ((Int.tmod a0 4) != 0) = false := bne_eq_false_iff_eq.mpr c56
                 clear c56
                 by_cases c57 : (Int.tmod a0 100) = 0
                 ·rw [if_pos c57] at H
                  have c57b0 : ((Int.tmod a0 100) == 0) = true := beq_iff_eq.mpr c57
                  have c57b1 : ((Int.tmod a0 100) != 0) = false := bne_eq_false_iff_eq.mpr c57
                  clear c57
                  have H' := Aside0.mk H
                  clear H
                  go_wp2
                  go_meet
                  case rel => exact ⟨_, (((Int.tmod a0 400) == 0)), (by first | rfl | (simp; done) | (simp [*]; done)), H', ⟨by have := HJ9.out; first | omega | exact Nat.le_refl _⟩, ⟨by repeat (first | (with_reducible first | exact HB.out | apply below_alloc | apply pw_below_drewN | apply below_drew1) | exact HB.out)⟩⟩
                 ·rw [if_neg c57] at H
                  have c57b0 : ((Int.tmod a0 100) == 0) = false := beq_eq_false_iff_ne.mpr c57
                  have c57b1 : ((Int.tmod a0 100) != 0) = true := bne_iff_ne.mpr c57
                  have H' := Aside0.mk H
                  clear H
                  go_wp2
                  go_meet
                  case rel => exact ⟨_, (true), (by first | rfl | (simp; done) | (simp [*]; done)), H', ⟨by have := HJ9.out; first | omega | exact Nat.le_refl _⟩, ⟨by repeat (first | (with_reducible first | exact HB.out | apply below_alloc | apply pw_below_drewN | apply below_drew1) | exact HB.out)⟩⟩
                ·rw [if_neg c56] at H
                 have c56b0 : ((Int.tmod a0 4) == 0) = false := beq_eq_false_iff_ne.mpr c56
                 have c56b1 : ((Int.tmod a0 4) != 0) = true := bne_iff_ne.mpr c56
                 have H' := Aside0.mk H
                 clear H
                 go_wp2
                 go_meet
                 case rel => exact ⟨_, (((Int.tmod a0 400) == 0)), (by first | rfl | (simp; done) | (simp [*]; done)), H', ⟨by have := HJ9.out; first | omega | exact Nat.le_refl _⟩, ⟨by repeat (first | (with_reducible first | exact HB.out | apply below_alloc | apply pw_below_drewN | apply below_drew1) | exact HB.out)⟩⟩
               ·rw [if_neg c55] at H
                have c55b0 : (a1 == 2) = false := beq_eq_false_iff_ne.mpr c55
                have c55b1 : (a1 != 2) = true := bne_iff_ne.mpr c55
                (first | rw [c55b0] | (simp only [i64_w, i32_w]; rw [c55b0]) | skip)
                have H' := Aside0.mk H
                clear H
                go_wp2
                go_meet
                case rel => exact ⟨_, (false), (by first | rfl | (simp; done) | (simp [*]; done)), H', ⟨by have := HJ9.out; first | omega | exact Nat.le_refl _⟩, ⟨by repeat (first | (with_reducible first | exact HB.out | apply below_alloc | apply pw_below_drewN | apply below_drew1) | exact HB.out)⟩⟩
              case rest =>
               clear HC44
               try clear c1
               try clear c2
               try clear p2
               try clear q2
               try clear hx2
               try clear c3
               try clear c4
               try clear c5
               try clear p6
               try clear c9
               try clear c12
               try clear c12b0
               try clear c13
               try clear c13b0
               try clear c14
               try clear c14b0
               try clear c15
               try clear c15b0
               try clear c16
               try clear c16b0
               try clear c17
               try clear c17b0
               try clear c18
               try clear c18b0
               try clear c19
               try clear c19b0
               try clear c20
               try clear c20b0
               try clear c21
               try clear c21b0
               try clear p21
               try clear q21
               try clear hx21
               try clear c22
               try clear c22b0
               try clear c23
               try clear c23b0
               try clear c24
               try clear c24b0
               try clear c25
               try clear c28
               try clear c28b0
               try clear c28b1
               try clear c28b2
               try clear c29
               try clear c29b0
               try clear c29b1
               try clear c29b2
               try clear c31
               try clear c31b0
               try clear c31b1
               try clear c31b2
               try clear c32
               try clear c32b0
               try clear c32b1
               try clear c32b2
               try clear c34
               try clear c34b0
               try clear c34b1
               try clear c34b2
               try clear c36
               try clear c36b0
               try clear c36b1
               try clear c36b2
               try clear c38
               try clear c38b0
               try clear c38b1
               try clear c38b2
               try clear c39
               try clear c39b0
               try clear c39b1
               try clear c39b2
               try clear c41
               try clear c41b0
               try clear c41b1
               try clear c41b2
               try clear c42
               try clear c42b0
               try clear c43
               try clear c43b0
               try clear c55
               try clear c55b0
               try clear c55b1
               try clear c56
               try clear c56b0
               try clear c56b1
               try clear c57
               try clear c57b0
               try clear c57b1
               try clear hx213_0
               try clear p2
               try clear p213
               try clear q213
               obtain ⟨kq, x124_43, rfl, HA, HJ43, HB⟩ := hcut
               cases kq with
               | zero => exact absurd HA.out (by simp [dragomanlaw10_TlexStamps.j1])
               | succ kj43 =>
                have H := HA.out
                clear HA
                simp only [dragomanlaw10_TlexStamps.j1] at H
                have HC58 := Aside0.mk H
                clear H
                go_upto_if 124 with (fail)
                go_cut [17] (fun v17 wc => ∃ (kq : Nat) (x17_57 : Int), v17 = .int .i64 x17_57 ∧ Aside0 (dragomanlaw10_TlexStamps.j2 kq a2 a3 a4 a5 a6 (((((t203 ++ t204) ++ (⟨#[45]⟩ : ByteArray)) ++ t205) ++ (⟨#[45]⟩ : ByteArray)) ++ t206) ((((t207 ++ (⟨#[58]⟩ : ByteArray)) ++ t208) ++ (⟨#[58]⟩ : ByteArray)) ++ t209) x17_57 = some r) ∧ Aside0 (kq ≤ kj43) ∧ Aside0 (Below w.heap.size w wc))
                case first =>
                 have H := HC58.out
                 clear HC58
                 by_cases c59 : x124_43 = true
                 ·subst c59
                  have H1 : (dragomanlaw10_TlexStamps.j2 kj43 a2 a3 a4 a5 a6 (((((t203 ++ t204) ++ (⟨#[45]⟩ : ByteArray)) ++ t205) ++ (⟨#[45]⟩ : ByteArray)) ++ t206) ((((t207 ++ (⟨#[58]⟩ : ByteArray)) ++ t208) ++ (⟨#[58]⟩ : ByteArray)) ++ t209) 29) = some r := by rw [if_pos rfl] at H; exact H
                  clear H
                  have H := H1
                  clear H1
                  have H' := Aside0.mk H
                  clear H
                  go_wp2
                  go_meet
                  case rel => exact ⟨_, (29), (by first | rfl | (simp; done) | (simp [*]; done)), H', ⟨by have := HJ9.out; have := HJ43.out; first | omega | exact Nat.le_refl _⟩, ⟨by repeat (first | (with_reducible first | exact HB.out | apply below_alloc | apply pw_below_drewN | apply below_drew1) | exact HB.out)⟩⟩
                 ·replace c59 := Bool.eq_false_iff.mpr c59
                  subst c59
                  have H1 : (dragomanlaw10_TlexStamps.j2 kj43 a2 a3 a4 a5 a6 (((((t203 ++ t204) ++ (⟨#[45]⟩ : ByteArray)) ++ t205) ++ (⟨#[45]⟩ : ByteArray)) ++ t206) ((((t207 ++ (⟨#[58]⟩ : ByteArray)) ++ t208) ++ (⟨#[58]⟩ : ByteArray)) ++ t209) (rd y210 a1)) = some r := by rw [if_neg (show ¬ (false = true) by decide)] at H; exact H
                  clear H
                  have H := H1
                  clear H1
                  have H' := Aside0.mk H
                  clear H
                  go_wp2
                  go_meet
                  case rel => exact ⟨_, ((rd y210 a1)), (by first | rfl | (simp; done) | (simp [*]; done)), H', ⟨by have := HJ9.out; have := HJ43.out; first | omega | exact Nat.le_refl _⟩, ⟨by repeat (first | (with_reducible first | exact HB.out | apply below_alloc | apply pw_below_drewN | apply below_drew1) | exact HB.out)⟩⟩
                case rest =>
                 go_step
                 exact dragomanlaw10_TlexStamps.part3 (k := k) HJ9 HJ43 hcut
             ·rw [if_neg c43] at H
              exact absurd H (by simp)
            ·rw [if_neg c42] at H
             exact absurd H (by simp)
           ·rw [if_neg c41] at H
            exact absurd H (by simp)
          ·rw [if_neg c39] at H
           exact absurd H (by simp)
         ·rw [if_neg c38] at H
          exact absurd H (by simp)
        ·rw [if_neg c36] at H
         exact absurd H (by simp)
       ·rw [if_neg c34] at H
        exact absurd H (by simp)
      ·rw [if_neg c32] at H
       exact absurd H (by simp)
     ·rw [if_neg c31] at H
      exact absurd H (by simp)
    ·rw [if_neg c29] at H
     exact absurd H (by simp)
   ·rw [if_neg c28] at H
    exact absurd H (by simp)

end Go.Proofs.YtfddpaljmihinaaGreatDoor.PStamps
