/-
  A walk printed by the kit's printer, with functions that are given, and turned by programs of this session. (Conditions: what each theorem asks.)
-/
import Derived.Test.YtfddpaljmihinaaGreatDoorPStampsx10
-- PRINTED by print.py (a twelfth state) out of the translation, and cut by a program of this session's. Not trusted: Lean checks it.
namespace Go.Proofs.YtfddpaljmihinaaGreatDoor.PStamps
open Go.RowKit Go.Proofs.YtfddpaljmihinaaGreatDoorW.PrintWords Go.Proofs.YtfddpaljmihinaaGreatDoorW.PrintLast Go.Proofs.YtfddpaljmihinaaGreatDoorW.PrintMore
attribute [local go_sem] max2_int min2_int max_two min_two max_three min_three max_four min_four   -- for this text's walks alone

set_option linter.unusedVariables false
set_option linter.unusedSimpArgs false

set_option maxHeartbeats 8000000 in
set_option maxRecDepth 100000 in
theorem dragomanlaw10_TlexStamps.part3 {k kj9 kj43 : Nat} {a0 a1 a2 a3 a4 a5 a6 : Int} {r : Bool} {w wc : World} [Go.Proofs.YtfddpaljmihinaaGreatDoor.Cut.GoodW w] {x15 x16 : ByteArray}  {u17 u24 u25 u26 u27 u28 u29 u30 u31 u32 u33 u34 u35 u36 u37 u38 u39 u40 u41 u42 u43 u44 u45 u46 u47 u48 u49 u50 u51 u52 u53 u54 u55 u56 u57 u58 u59 u60 u61 u62 u63 u64 u65 u66 u67 u68 u69 u70 u71 u72 u73 u74 u75 u76 u77 u78 u79 u80 u81 u82 u83 u84 u85 u86 u87 u88 u89 u90 u91 u92 u93 u94 u95 u96 u97 u98 u99 u100 u101 u102 u103 u104 u105 u106 u107 u108 u109 u110 u111 u112 u113 u114 u115 u116 u117 u118 u119 u120 u121 u122 u123 u124 u125 u126 u127 u128 u129 u130 u131 u132 u133 u134 u135 u136 u137 u138 u139 u140 u141 u142 u143 u144 u145 u146 u147 u148 u149 u150 u151 u152 u153 u154 u155 u156 u157 u158 u159 u160 u161 u162 u163 u164 u165 u166 u167 u168 u169 u170 u171 u172 u173 u174 u175 u176 u177 u178 u179 u180 u181 u182 u183 u184 u185 u186 u187 u188 u189 u190 u191 u192 u193 u194 u195 u196 u197 u198 u199 u200 u201 u202 u203 u204 u205 u206 u207 u208 u209 u210 u211 u212 u213 u214 u215 u216 u217 u218 u219 u220 u221 u222 u223 u224 u225 u226 u227 u228 u229 : Value} (HJ9 : Aside0 (kj9 + 1 ≤ k)) (HJ43 : Aside0 (kj43 + 1 ≤ kj9)) (hcut : ∃ (kq : Nat) (x17_57 : Int), u17 = .int .i64 x17_57 ∧ Aside0 (dragomanlaw10_TlexStamps.j2 kq a2 a3 a4 a5 a6 x15 x16 x17_57 = some r) ∧ Aside0 (kq ≤ kj43) ∧ Aside0 (Below w.heap.size w wc)) :
  Code.wp Tryz.prog (code3 Tryz.f5) (bodyPost Tryz.prog Tryz.f5 fun e w' => e = .returned (.bool r) ∧ Below w.heap.size w w') ⟨List.toArray (.int .i64 a0 :: .int .i64 a1 :: .int .i64 a2 :: .int .i64 a3 :: .int .i64 a4 :: .int .i64 a5 :: .int .i64 a6 :: undef :: undef :: undef :: undef :: undef :: undef :: undef :: .bool false :: .string x15 :: .string x16 :: u17 :: undef :: undef :: undef :: undef :: undef :: undef :: u24 :: u25 :: u26 :: u27 :: u28 :: u29 :: u30 :: u31 :: u32 :: u33 :: u34 :: u35 :: u36 :: u37 :: u38 :: u39 :: u40 :: u41 :: u42 :: u43 :: u44 :: u45 :: u46 :: u47 :: u48 :: u49 :: u50 :: u51 :: u52 :: u53 :: u54 :: u55 :: u56 :: u57 :: u58 :: u59 :: u60 :: u61 :: u62 :: u63 :: u64 :: u65 :: u66 :: u67 :: u68 :: u69 :: u70 :: u71 :: u72 :: u73 :: u74 :: u75 :: u76 :: u77 :: u78 :: u79 :: u80 :: u81 :: u82 :: u83 :: u84 :: u85 :: u86 :: u87 :: u88 :: u89 :: u90 :: u91 :: u92 :: u93 :: u94 :: u95 :: u96 :: u97 :: u98 :: u99 :: u100 :: u101 :: u102 :: u103 :: u104 :: u105 :: u106 :: u107 :: u108 :: u109 :: u110 :: u111 :: u112 :: u113 :: u114 :: u115 :: u116 :: u117 :: u118 :: u119 :: u120 :: u121 :: u122 :: u123 :: u124 :: u125 :: u126 :: u127 :: u128 :: u129 :: u130 :: u131 :: u132 :: u133 :: u134 :: u135 :: u136 :: u137 :: u138 :: u139 :: u140 :: u141 :: u142 :: u143 :: u144 :: u145 :: u146 :: u147 :: u148 :: u149 :: u150 :: u151 :: u152 :: u153 :: u154 :: u155 :: u156 :: u157 :: u158 :: u159 :: u160 :: u161 :: u162 :: u163 :: u164 :: u165 :: u166 :: u167 :: u168 :: u169 :: u170 :: u171 :: u172 :: u173 :: u174 :: u175 :: u176 :: u177 :: u178 :: u179 :: u180 :: u181 :: u182 :: u183 :: u184 :: u185 :: u186 :: u187 :: u188 :: u189 :: u190 :: u191 :: u192 :: u193 :: u194 :: u195 :: u196 :: u197 :: u198 :: u199 :: u200 :: u201 :: u202 :: u203 :: u204 :: u205 :: u206 :: u207 :: u208 :: u209 :: u210 :: u211 :: u212 :: u213 :: u214 :: u215 :: u216 :: u217 :: u218 :: u219 :: u220 :: u221 :: u222 :: u223 :: u224 :: u225 :: u226 :: u227 :: u228 :: u229 :: []), []⟩ wc := by
 have hu27 := Tryz.underlying27
 conv => arg 2; whnf
 try clear c1
 try clear c2
 try clear p2
 try clear q2
 try clear hx2
 try clear c3
 try clear c4
 try clear c5
 try clear p6
 try clear c9
 try clear c12
 try clear c12b0
 try clear c13
 try clear c13b0
 try clear c14
 try clear c14b0
 try clear c15
 try clear c15b0
 try clear c16
 try clear c16b0
 try clear c17
 try clear c17b0
 try clear c18
 try clear c18b0
 try clear c19
 try clear c19b0
 try clear c20
 try clear c20b0
 try clear c21
 try clear c21b0
 try clear p21
 try clear q21
 try clear hx21
 try clear c22
 try clear c22b0
 try clear c23
 try clear c23b0
 try clear c24
 try clear c24b0
 try clear c25
 try clear c28
 try clear c28b0
 try clear c28b1
 try clear c28b2
 try clear c29
 try clear c29b0
 try clear c29b1
 try clear c29b2
 try clear c31
 try clear c31b0
 try clear c31b1
 try clear c31b2
 try clear c32
 try clear c32b0
 try clear c32b1
 try clear c32b2
 try clear c34
 try clear c34b0
 try clear c34b1
 try clear c34b2
 try clear c36
 try clear c36b0
 try clear c36b1
 try clear c36b2
 try clear c38
 try clear c38b0
 try clear c38b1
 try clear c38b2
 try clear c39
 try clear c39b0
 try clear c39b1
 try clear c39b2
 try clear c41
 try clear c41b0
 try clear c41b1
 try clear c41b2
 try clear c42
 try clear c42b0
 try clear c43
 try clear c43b0
 try clear c55
 try clear c55b0
 try clear c55b1
 try clear c56
 try clear c56b0
 try clear c56b1
 try clear c57
 try clear c57b0
 try clear c57b1
 try clear c59
 try clear hx213_0
 try clear p2
 try clear p21
 try clear p213
 try clear p6
 try clear q2
 try clear q21
 try clear q213
 obtain ⟨kq, x17_57, rfl, HA, HJ57, HB⟩ := hcut
 cases kq with
 | zero => exact absurd HA.out (by simp [dragomanlaw10_TlexStamps.j2])
 | succ kj57 =>
  have H := HA.out
  clear HA
  simp only [dragomanlaw10_TlexStamps.j2] at H
  have HC60 := Aside0.mk H
  clear H
  go_upto_region 10 with (fail)
  go_cut [18] (fun v18 wc => ∃ (kq : Nat) (x18_59 : Bool), v18 = .bool x18_59 ∧ Aside0 (dragomanlaw10_TlexStamps.j3 kq a3 a4 a5 a6 x15 x16 x18_59 = some r) ∧ Aside0 (kq ≤ kj57) ∧ Aside0 (Below w.heap.size w wc))
  case first =>
   have H := HC60.out
   clear HC60
   by_cases c61 : a2 ≥ 1
   ·rw [if_pos c61] at H
    have c61b0 : decide (1 ≤ a2) = true := decide_eq_true c61
    clear c61
    (first | rw [c61b0] | (simp only [i64_w, i32_w]; rw [c61b0]) | skip)
    have H' := Aside0.mk H
    clear H
    go_wp2
    go_meet
    case rel => exact ⟨_, (decide (a2 ≤ x17_57)), (by first | rfl | (simp; done) | (simp [*]; done)), H', ⟨by have := HJ9.out; have := HJ43.out; have := HJ57.out; first | omega | exact Nat.le_refl _⟩, ⟨by repeat (first | (with_reducible first | exact HB.out | apply below_alloc | apply pw_below_drewN | apply below_drew1) | exact HB.out)⟩⟩
   ·rw [if_neg c61] at H
    have c61b0 : decide (1 ≤ a2) = false := decide_eq_false c61
    clear c61
    (first | rw [c61b0] | (simp only [i64_w, i32_w]; rw [c61b0]) | skip)
    have H' := Aside0.mk H
    clear H
    go_wp2
    go_meet
    case rel => exact ⟨_, (false), (by first | rfl | (simp; done) | (simp [*]; done)), H', ⟨by have := HJ9.out; have := HJ43.out; have := HJ57.out; first | omega | exact Nat.le_refl _⟩, ⟨by repeat (first | (with_reducible first | exact HB.out | apply below_alloc | apply pw_below_drewN | apply below_drew1) | exact HB.out)⟩⟩
  case rest =>
   clear HC60
   try clear c1
   try clear c2
   try clear p2
   try clear q2
   try clear hx2
   try clear c3
   try clear c4
   try clear c5
   try clear c6
   try clear p6
   try clear c9
   try clear c12
   try clear c12b0
   try clear c13
   try clear c13b0
   try clear c14
   try clear c14b0
   try clear c15
   try clear c15b0
   try clear c16
   try clear c16b0
   try clear c17
   try clear c17b0
   try clear c18
   try clear c18b0
   try clear c19
   try clear c19b0
   try clear c20
   try clear c20b0
   try clear c21
   try clear c21b0
   try clear p21
   try clear q21
   try clear hx21
   try clear c22
   try clear c22b0
   try clear c23
   try clear c23b0
   try clear c24
   try clear c24b0
   try clear c25
   try clear c28
   try clear c28b0
   try clear c28b1
   try clear c28b2
   try clear c29
   try clear c29b0
   try clear c29b1
   try clear c29b2
   try clear c31
   try clear c31b0
   try clear c31b1
   try clear c31b2
   try clear c32
   try clear c32b0
   try clear c32b1
   try clear c32b2
   try clear c34
   try clear c34b0
   try clear c34b1
   try clear c34b2
   try clear c36
   try clear c36b0
   try clear c36b1
   try clear c36b2
   try clear c38
   try clear c38b0
   try clear c38b1
   try clear c38b2
   try clear c39
   try clear c39b0
   try clear c39b1
   try clear c39b2
   try clear c41
   try clear c41b0
   try clear c41b1
   try clear c41b2
   try clear c42
   try clear c42b0
   try clear c43
   try clear c43b0
   try clear c55
   try clear c55b0
   try clear c55b1
   try clear c56
   try clear c56b0
   try clear c56b1
   try clear c57
   try clear c57b0
   try clear c57b1
   try clear c59
   try clear c61
   try clear c61b0
   try clear hx213_0
   try clear p2
   try clear p21
   try clear p213
   try clear p6
   try clear q2
   try clear q21
   try clear q213
   obtain ⟨kq, x18_59, rfl, HA, HJ59, HB⟩ := hcut
   cases kq with
   | zero => exact absurd HA.out (by simp [dragomanlaw10_TlexStamps.j3])
   | succ kj59 =>
    have H := HA.out
    clear HA
    simp only [dragomanlaw10_TlexStamps.j3] at H
    have HC62 := Aside0.mk H
    clear H
    go_upto_region 11 with (fail)
    go_cut [19] (fun v19 wc => ∃ (kq : Nat) (x19_61 : Bool), v19 = .bool x19_61 ∧ Aside0 (dragomanlaw10_TlexStamps.j4 kq a6 x15 x16 x18_59 x19_61 = some r) ∧ Aside0 (kq ≤ kj59) ∧ Aside0 (Below w.heap.size w wc))
    case first =>
     have H := HC62.out
     clear HC62
     by_cases c63 : a3 < 24
     ·rw [if_pos c63] at H
      have c63b0 : decide (a3 < 24) = true := decide_eq_true c63
      clear c63
      (first | rw [c63b0] | (simp only [i64_w, i32_w]; rw [c63b0]) | skip)
      by_cases c64 : a4 < 60
      ·rw [if_pos c64] at H
       have c64b0 : decide (a4 < 60) = true := decide_eq_true c64
       clear c64
       have H' := Aside0.mk H
       clear H
       go_wp2
       go_meet
       case rel => exact ⟨_, (decide (a5 < 61)), (by first | rfl | (simp; done) | (simp [*]; done)), H', ⟨by have := HJ9.out; have := HJ43.out; have := HJ57.out; have := HJ59.out; first | omega | exact Nat.le_refl _⟩, ⟨by repeat (first | (with_reducible first | exact HB.out | apply below_alloc | apply pw_below_drewN | apply below_drew1) | exact HB.out)⟩⟩
      ·rw [if_neg c64] at H
       have c64b0 : decide (a4 < 60) = false := decide_eq_false c64
       clear c64
       have H' := Aside0.mk H
       clear H
       go_wp2
       go_meet
       case rel => exact ⟨_, (false), (by first | rfl | (simp; done) | (simp [*]; done)), H', ⟨by have := HJ9.out; have := HJ43.out; have := HJ57.out; have := HJ59.out; first | omega | exact Nat.le_refl _⟩, ⟨by repeat (first | (with_reducible first | exact HB.out | apply below_alloc | apply pw_below_drewN | apply below_drew1) | exact HB.out)⟩⟩
     ·rw [if_neg c63] at H
      have c63b0 : decide (a3 < 24) = false := decide_eq_false c63
      clear c63
      (first | rw [c63b0] | (simp only [i64_w, i32_w]; rw [c63b0]) | skip)
      have H' := Aside0.mk H
      clear H
      go_wp2
      go_meet
      case rel => exact ⟨_, (false), (by first | rfl | (simp; done) | (simp [*]; done)), H', ⟨by have := HJ9.out; have := HJ43.out; have := HJ57.out; have := HJ59.out; first | omega | exact Nat.le_refl _⟩, ⟨by repeat (first | (with_reducible first | exact HB.out | apply below_alloc | apply pw_below_drewN | apply below_drew1) | exact HB.out)⟩⟩
    case rest =>
     go_step
     exact dragomanlaw10_TlexStamps.part5 (k := k) (kj9 := kj9) (kj43 := kj43) HJ9 HJ43 HJ57 HJ59 hcut

end Go.Proofs.YtfddpaljmihinaaGreatDoor.PStamps
