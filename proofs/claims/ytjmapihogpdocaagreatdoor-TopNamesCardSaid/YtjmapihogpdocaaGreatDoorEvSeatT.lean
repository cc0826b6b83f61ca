/-
  The evaluator at this seat, with the further specifications and the readers that recover. (Conditions: none beyond what each theorem asks.)
-/
import Derived.Test.YtjmapihogpdocaaGreatDoorRows
import Derived.Shelf.SlIter.Nil
import Derived.Shelf.SortM.Plain
import Derived.Shelf.SortM.SortNone
import Derived.Ground.GgzProg
import Derived.Ground.SlgmProg
import Derived.KernelRfl
import Derived.Test.YtjmapihogpdocaaGreatDoorEvSeat
import Derived.Test.YtjmapihogpdocaaGreatDoorEvInt
import Derived.Test.YtjmapihogpdocaaGreatDoorEvQ
import Derived.Test.YtjmapihogpdocaaGreatDoorEvBegin
/-! ## EvIter -/
namespace Go.Proofs
open Go.Shelf Go.RowKit Go.Maps Go.Sort

def Tryz.keysT_ren : Go.Shelf.Ren := ⟨fun | 7 => 245 | 10 => 350 | n => n, fun | 23 => 343 | 26 => 9 | 3 => 247 | 28 => 356 | 0 => 0 | 27 => 355 | 33 => 252 | 4 => 4 | n => n, fun | n => n⟩
theorem Tryz.keysT : Go.Proofs.SlLaysZ.n7 Tryz.prog Tryz.keysT_ren := {
  mixed := by kernel_rfl
  f7 := ⟨Tryz.f245.name, by decide, Tryz.func245.trans (congrArg some (by kernel_rfl))⟩
  f10 := ⟨Tryz.f350.name, by decide, Tryz.func350.trans (congrArg some (by kernel_rfl))⟩
  t0 := Tryz.underlying0
  a0 := Tryz.isAgg0
  z0 := Tryz.sizeOf0
  v0 := Tryz.zeroValue0
  t4 := Tryz.underlying4
  a4 := Tryz.isAgg4
  z4 := Tryz.sizeOf4
  v4 := Tryz.zeroValue4
  t23 := Tryz.underlying343
  a23 := Tryz.isAgg343
  z23 := Tryz.sizeOf343
  v23 := Tryz.zeroValue343
  t26 := Tryz.underlying9
  a26 := Tryz.isAgg9
  z26 := Tryz.sizeOf9
  v26 := Tryz.zeroValue9
  t27 := Tryz.underlying355
  a27 := Tryz.isAgg355
  z27 := Tryz.sizeOf355
  v27 := Tryz.zeroValue355
  t28 := Tryz.underlying356
  a28 := Tryz.isAgg356
  z28 := Tryz.sizeOf356
  v28 := Tryz.zeroValue356
  t33 := Tryz.underlying252
  a33 := Tryz.isAgg252
  z33 := Tryz.sizeOf252
  v33 := Tryz.zeroValue252 }
def Tryz.keysO_ren : Go.Shelf.Ren := ⟨fun | 7 => 314 | 10 => 421 | n => n, fun | 23 => 400 | 26 => 9 | 3 => 184 | 28 => 356 | 0 => 0 | 27 => 355 | 33 => 252 | 4 => 4 | n => n, fun | n => n⟩
theorem Tryz.keysO : Go.Proofs.SlLaysZ.n7 Tryz.prog Tryz.keysO_ren := {
  mixed := by kernel_rfl
  f7 := ⟨Tryz.f314.name, by decide, Tryz.func314.trans (congrArg some (by kernel_rfl))⟩
  f10 := ⟨Tryz.f421.name, by decide, Tryz.func421.trans (congrArg some (by kernel_rfl))⟩
  t0 := Tryz.underlying0
  a0 := Tryz.isAgg0
  z0 := Tryz.sizeOf0
  v0 := Tryz.zeroValue0
  t4 := Tryz.underlying4
  a4 := Tryz.isAgg4
  z4 := Tryz.sizeOf4
  v4 := Tryz.zeroValue4
  t23 := Tryz.underlying400
  a23 := Tryz.isAgg400
  z23 := Tryz.sizeOf400
  v23 := Tryz.zeroValue400
  t26 := Tryz.underlying9
  a26 := Tryz.isAgg9
  z26 := Tryz.sizeOf9
  v26 := Tryz.zeroValue9
  t27 := Tryz.underlying355
  a27 := Tryz.isAgg355
  z27 := Tryz.sizeOf355
  v27 := Tryz.zeroValue355
  t28 := Tryz.underlying356
  a28 := Tryz.isAgg356
  z28 := Tryz.sizeOf356
  v28 := Tryz.zeroValue356
  t33 := Tryz.underlying252
  a33 := Tryz.isAgg252
  z33 := Tryz.sizeOf252
  v33 := Tryz.zeroValue252 }
def Tryz.keysV_ren : Go.Shelf.Ren := ⟨fun | 7 => 431 | 10 => 492 | n => n, fun | 23 => 424 | 26 => 9 | 3 => 27 | 28 => 356 | 0 => 0 | 27 => 355 | 33 => 252 | 4 => 4 | n => n, fun | n => n⟩
theorem Tryz.keysV : Go.Proofs.SlLaysZ.n7 Tryz.prog Tryz.keysV_ren := {
  mixed := by kernel_rfl
  f7 := ⟨Tryz.f431.name, by decide, Tryz.func431.trans (congrArg some (by kernel_rfl))⟩
  f10 := ⟨Tryz.f492.name, by decide, Tryz.func492.trans (congrArg some (by kernel_rfl))⟩
  t0 := Tryz.underlying0
  a0 := Tryz.isAgg0
  z0 := Tryz.sizeOf0
  v0 := Tryz.zeroValue0
  t4 := Tryz.underlying4
  a4 := Tryz.isAgg4
  z4 := Tryz.sizeOf4
  v4 := Tryz.zeroValue4
  t23 := Tryz.underlying424
  a23 := Tryz.isAgg424
  z23 := Tryz.sizeOf424
  v23 := Tryz.zeroValue424
  t26 := Tryz.underlying9
  a26 := Tryz.isAgg9
  z26 := Tryz.sizeOf9
  v26 := Tryz.zeroValue9
  t27 := Tryz.underlying355
  a27 := Tryz.isAgg355
  z27 := Tryz.sizeOf355
  v27 := Tryz.zeroValue355
  t28 := Tryz.underlying356
  a28 := Tryz.isAgg356
  z28 := Tryz.sizeOf356
  v28 := Tryz.zeroValue356
  t33 := Tryz.underlying252
  a33 := Tryz.isAgg252
  z33 := Tryz.sizeOf252
  v33 := Tryz.zeroValue252 }
def Tryz.keysU_ren : Go.Shelf.Ren := ⟨fun | 7 => 445 | 10 => 513 | n => n, fun | 23 => 439 | 26 => 9 | 3 => 438 | 28 => 356 | 0 => 0 | 27 => 355 | 33 => 252 | 4 => 4 | n => n, fun | n => n⟩
theorem Tryz.keysU : Go.Proofs.SlLaysZ.n7 Tryz.prog Tryz.keysU_ren := {
  mixed := by kernel_rfl
  f7 := ⟨Tryz.f445.name, by decide, Tryz.func445.trans (congrArg some (by kernel_rfl))⟩
  f10 := ⟨Tryz.f513.name, by decide, Tryz.func513.trans (congrArg some (by kernel_rfl))⟩
  t0 := Tryz.underlying0
  a0 := Tryz.isAgg0
  z0 := Tryz.sizeOf0
  v0 := Tryz.zeroValue0
  t4 := Tryz.underlying4
  a4 := Tryz.isAgg4
  z4 := Tryz.sizeOf4
  v4 := Tryz.zeroValue4
  t23 := Tryz.underlying439
  a23 := Tryz.isAgg439
  z23 := Tryz.sizeOf439
  v23 := Tryz.zeroValue439
  t26 := Tryz.underlying9
  a26 := Tryz.isAgg9
  z26 := Tryz.sizeOf9
  v26 := Tryz.zeroValue9
  t27 := Tryz.underlying355
  a27 := Tryz.isAgg355
  z27 := Tryz.sizeOf355
  v27 := Tryz.zeroValue355
  t28 := Tryz.underlying356
  a28 := Tryz.isAgg356
  z28 := Tryz.sizeOf356
  v28 := Tryz.zeroValue356
  t33 := Tryz.underlying252
  a33 := Tryz.isAgg252
  z33 := Tryz.sizeOf252
  v33 := Tryz.zeroValue252 }
def Tryz.sortedS_ren : Go.Shelf.Ren := ⟨fun | 6 => 244 | 8 => 348 | 9 => 349 | 11 => 438 | 13 => 268 | 12 => 439 | 23 => 373 | 24 => 374 | 14 => 501 | 15 => 502 | 16 => 503 | 17 => 504 | 18 => 505 | 19 => 506 | 20 => 507 | 21 => 508 | 22 => 509 | 25 => 538 | 26 => 452 | 27 => 453 | 28 => 539 | 29 => 540 | 30 => 541 | 31 => 550 | n => n, fun | 26 => 9 | 28 => 356 | 24 => 63 | 0 => 0 | 3 => 3 | 37 => 373 | 48 => 452 | 50 => 454 | 4 => 4 | 40 => 446 | 39 => 445 | 45 => 241 | 5 => 5 | 9 => 9 | 51 => 498 | 55 => 502 | 57 => 541 | 58 => 136 | 33 => 252 | n => n, fun | n => n⟩
theorem Tryz.sortedS : Go.Proofs.SlLaysZ.n6 Tryz.prog Tryz.sortedS_ren := {
  mixed := by kernel_rfl
  f6 := ⟨Tryz.f244.name, by decide, Tryz.func244.trans (congrArg some (by kernel_rfl))⟩
  f8 := ⟨Tryz.f348.name, by decide, Tryz.func348.trans (congrArg some (by kernel_rfl))⟩
  f11 := ⟨Tryz.f438.name, by decide, Tryz.func438.trans (congrArg some (by kernel_rfl))⟩
  t0 := Tryz.underlying0
  a0 := Tryz.isAgg0
  z0 := Tryz.sizeOf0
  v0 := Tryz.zeroValue0
  t24 := Tryz.underlying63
  a24 := Tryz.isAgg63
  z24 := Tryz.sizeOf63
  v24 := Tryz.zeroValue63
  t26 := Tryz.underlying9
  a26 := Tryz.isAgg9
  z26 := Tryz.sizeOf9
  v26 := Tryz.zeroValue9
  t28 := Tryz.underlying356
  a28 := Tryz.isAgg356
  z28 := Tryz.sizeOf356
  v28 := Tryz.zeroValue356
  i26 := by kernel_rfl }
def Tryz.sortS_ren : Go.Shelf.Ren := ⟨fun | 6 => 349 | 8 => 268 | 9 => 439 | 19 => 373 | 20 => 374 | 21 => 501 | 22 => 502 | 23 => 503 | 24 => 504 | 25 => 505 | 26 => 506 | 27 => 507 | 28 => 508 | 29 => 509 | 36 => 538 | 31 => 452 | 32 => 453 | 37 => 539 | 38 => 540 | 39 => 541 | 41 => 550 | n => n, fun | 27 => 63 | 29 => 9 | 3 => 3 | 32 => 373 | 26 => 63 | 0 => 0 | 44 => 452 | 46 => 454 | 4 => 4 | 36 => 446 | 35 => 445 | 41 => 241 | 5 => 5 | 9 => 9 | 53 => 498 | 57 => 502 | 63 => 541 | 64 => 136 | n => n, fun | n => n⟩
theorem Tryz.sortS : Go.Proofs.SlLaysM.n6 Tryz.prog Tryz.sortS_ren := {
  mixed := by kernel_rfl
  f6 := ⟨Tryz.f349.name, by decide, Tryz.func349.trans (congrArg some (by kernel_rfl))⟩
  f8 := Tryz.func268.trans (congrArg some (by kernel_rfl))
  f9 := ⟨Tryz.f439.name, by decide, Tryz.func439.trans (congrArg some (by kernel_rfl))⟩
  f19 := Tryz.func373.trans (congrArg some (by kernel_rfl))
  f20 := Tryz.func374.trans (congrArg some (by kernel_rfl))
  f21 := ⟨Tryz.f501.name, by decide, Tryz.func501.trans (congrArg some (by kernel_rfl))⟩
  f22 := ⟨Tryz.f502.name, by decide, Tryz.func502.trans (congrArg some (by kernel_rfl))⟩
  f23 := ⟨Tryz.f503.name, by decide, Tryz.func503.trans (congrArg some (by kernel_rfl))⟩
  f24 := ⟨Tryz.f504.name, by decide, Tryz.func504.trans (congrArg some (by kernel_rfl))⟩
  f25 := ⟨Tryz.f505.name, by decide, Tryz.func505.trans (congrArg some (by kernel_rfl))⟩
  f26 := ⟨Tryz.f506.name, by decide, Tryz.func506.trans (congrArg some (by kernel_rfl))⟩
  f27 := ⟨Tryz.f507.name, by decide, Tryz.func507.trans (congrArg some (by kernel_rfl))⟩
  f28 := ⟨Tryz.f508.name, by decide, Tryz.func508.trans (congrArg some (by kernel_rfl))⟩
  f29 := ⟨Tryz.f509.name, by decide, Tryz.func509.trans (congrArg some (by kernel_rfl))⟩
  f31 := Tryz.func452.trans (congrArg some (by kernel_rfl))
  f32 := Tryz.func453.trans (congrArg some (by kernel_rfl))
  f36 := ⟨Tryz.f538.name, by decide, Tryz.func538.trans (congrArg some (by kernel_rfl))⟩
  f37 := ⟨Tryz.f539.name, by decide, Tryz.func539.trans (congrArg some (by kernel_rfl))⟩
  f38 := ⟨Tryz.f540.name, by decide, Tryz.func540.trans (congrArg some (by kernel_rfl))⟩
  f39 := ⟨Tryz.f541.name, by decide, Tryz.func541.trans (congrArg some (by kernel_rfl))⟩
  f41 := ⟨Tryz.f550.name, by decide, Tryz.func550.trans (congrArg some (by kernel_rfl))⟩
  t0 := Tryz.underlying0
  a0 := Tryz.isAgg0
  z0 := Tryz.sizeOf0
  v0 := Tryz.zeroValue0
  t3 := Tryz.underlying3
  a3 := Tryz.isAgg3
  z3 := Tryz.sizeOf3
  v3 := Tryz.zeroValue3
  t4 := Tryz.underlying4
  a4 := Tryz.isAgg4
  z4 := Tryz.sizeOf4
  v4 := Tryz.zeroValue4
  t5 := Tryz.underlying5
  a5 := Tryz.isAgg5
  z5 := Tryz.sizeOf5
  v5 := Tryz.zeroValue5
  t9 := Tryz.underlying9
  a9 := Tryz.isAgg9
  z9 := Tryz.sizeOf9
  v9 := Tryz.zeroValue9
  t26 := Tryz.underlying63
  a26 := Tryz.isAgg63
  z26 := Tryz.sizeOf63
  v26 := Tryz.zeroValue63
  t27 := Tryz.underlying63
  a27 := Tryz.isAgg63
  z27 := Tryz.sizeOf63
  v27 := Tryz.zeroValue63
  t29 := Tryz.underlying9
  a29 := Tryz.isAgg9
  z29 := Tryz.sizeOf9
  v29 := Tryz.zeroValue9
  t32 := Tryz.underlying373
  a32 := Tryz.isAgg373
  z32 := Tryz.sizeOf373
  v32 := Tryz.zeroValue373
  t35 := Tryz.underlying445
  a35 := Tryz.isAgg445
  z35 := Tryz.sizeOf445
  v35 := Tryz.zeroValue445
  t36 := Tryz.underlying446
  a36 := Tryz.isAgg446
  z36 := Tryz.sizeOf446
  v36 := Tryz.zeroValue446
  t41 := Tryz.underlying241
  a41 := Tryz.isAgg241
  z41 := Tryz.sizeOf241
  v41 := Tryz.zeroValue241
  t44 := Tryz.underlying452
  a44 := Tryz.isAgg452
  z44 := Tryz.sizeOf452
  v44 := Tryz.zeroValue452
  t46 := Tryz.underlying454
  a46 := Tryz.isAgg454
  z46 := Tryz.sizeOf454
  v46 := Tryz.zeroValue454
  t53 := Tryz.underlying498
  a53 := Tryz.isAgg498
  z53 := Tryz.sizeOf498
  v53 := Tryz.zeroValue498
  t57 := Tryz.underlying502
  a57 := Tryz.isAgg502
  z57 := Tryz.sizeOf502
  v57 := Tryz.zeroValue502
  t63 := Tryz.underlying541
  a63 := Tryz.isAgg541
  z63 := Tryz.sizeOf541
  v63 := Tryz.zeroValue541
  t64 := Tryz.underlying136
  a64 := Tryz.isAgg136
  z64 := Tryz.sizeOf136
  v64 := Tryz.zeroValue136 }
theorem Tryz.evSorts (m : Nat) : AnyZ.SortsIn Tryz.prog Tryz.sortedS_ren Fence.wide m :=
  ⟨fun blk off cap ss W hH hblk hsz => callsIn_wide.2 (AnyM.slices_Sort_string Tryz.sortS blk off cap ss W hH hblk hsz),
   fun p cap W => callsIn_wide.2 (AnyM.slices_Sort_string_none Tryz.sortS p cap W)⟩

set_option maxHeartbeats 1000000 in
/-- slices.Sorted at an iterator over a map's keys. -/
theorem Tryz.evSortedT {H : Type} {R : Value → Option (DataW H × List MemPlace)} (b nn Bm : Nat) (D0 : DataW H) (w : World) (hBm : Bm < w.heap.size) (hm : w.cell? ⟨Bm, 0, none⟩ = some (.map (some b))) (hown : w.ownsMap Tryz.prog 9 R b nn D0)
    (hmax : Maps.size D0 ≤ maxLen) (hbytes : Maps.size D0 * 16 ≤ 140737488355328) :
    Calls Tryz.prog 244 #[.func (.func 350) #[] #[.pointer (some ⟨Bm, 0, none⟩)]] w fun e w' => ∃ (v : Value) (ss : List (List UInt8)), e = .returned v ∧ ss.Perm (strKeys D0) ∧
      w'.ownsRow w.heap.size 9 1 v ss.length ((ss.mergeSort leB).map encStr) ∧ (v = .slice none 0 0 ↔ ss = []) ∧ Below w.heap.size w w' := by
  refine (callsIn_wide (n := 5)).1 ?_
  have hseq : SeqGives Fence.wide 2 Tryz.prog 350 #[.pointer (some ⟨Bm, 0, none⟩)] encStr (fun ss => ss.Perm (strKeys D0)) (Maps.size D0) w :=
    AnyZ.keys_gives (ρ := Tryz.keysT_ren) { Tryz.keysT with } Fence.wide _ trivial rfl (by omega) Bm b nn D0 _ hBm hm hown
  exact AnyZ.sorted_in Tryz.sortedS Fence.wide 5 trivial trivial trivial trivial rfl (by omega) (Tryz.evSorts _) (enters_of Tryz.func349 (by kernel_rfl) rfl) 350 #[.pointer (some ⟨Bm, 0, none⟩)] trivial (enters_of Tryz.func350 (by kernel_rfl) rfl) _ _ hmax hbytes _ hseq
theorem Tryz.evNilT (Bm : Nat) (w : World) (hBm : Bm < w.heap.size) (hm : w.cell? ⟨Bm, 0, none⟩ = some (.map none)) :
    Calls Tryz.prog 244 #[.func (.func 350) #[] #[.pointer (some ⟨Bm, 0, none⟩)]] w fun e w' => e = .returned (.slice none 0 0) ∧ Below w.heap.size w w' := by
  have hseq : SeqGives Fence.wide 2 Tryz.prog 350 #[.pointer (some ⟨Bm, 0, none⟩)] encStr (fun ss : List (List UInt8) => ss = []) 0 w :=
    AnyZ.keys_gives_nil (ρ := Tryz.keysT_ren) { Tryz.keysT with } Fence.wide _ trivial rfl Bm w hBm hm
  refine ((callsIn_wide (n := 5)).1 (AnyZ.sorted_in Tryz.sortedS Fence.wide 5 trivial trivial trivial trivial rfl (by omega) (Tryz.evSorts _) (enters_of Tryz.func349 (by kernel_rfl) rfl) 350 #[.pointer (some ⟨Bm, 0, none⟩)] trivial (enters_of Tryz.func350 (by kernel_rfl) rfl) _ _ (by decide) (by decide) _ hseq)).mono ?_
  rintro e w' ⟨v, ss, rfl, hss, _, hnil, hb⟩
  exact ⟨by rw [hnil.2 hss], hb⟩
set_option maxHeartbeats 1000000 in
/-- slices.Sorted at an iterator over a map's keys. -/
theorem Tryz.evSortedO {H : Type} {R : Value → Option (DataW H × List MemPlace)} (b nn Bm : Nat) (D0 : DataW H) (w : World) (hBm : Bm < w.heap.size) (hm : w.cell? ⟨Bm, 0, none⟩ = some (.map (some b))) (hown : w.ownsMap Tryz.prog 9 R b nn D0)
    (hmax : Maps.size D0 ≤ maxLen) (hbytes : Maps.size D0 * 16 ≤ 140737488355328) :
    Calls Tryz.prog 244 #[.func (.func 421) #[] #[.pointer (some ⟨Bm, 0, none⟩)]] w fun e w' => ∃ (v : Value) (ss : List (List UInt8)), e = .returned v ∧ ss.Perm (strKeys D0) ∧
      w'.ownsRow w.heap.size 9 1 v ss.length ((ss.mergeSort leB).map encStr) ∧ (v = .slice none 0 0 ↔ ss = []) ∧ Below w.heap.size w w' := by
  refine (callsIn_wide (n := 5)).1 ?_
  have hseq : SeqGives Fence.wide 2 Tryz.prog 421 #[.pointer (some ⟨Bm, 0, none⟩)] encStr (fun ss => ss.Perm (strKeys D0)) (Maps.size D0) w :=
    AnyZ.keys_gives (ρ := Tryz.keysO_ren) { Tryz.keysO with } Fence.wide _ trivial rfl (by omega) Bm b nn D0 _ hBm hm hown
  exact AnyZ.sorted_in Tryz.sortedS Fence.wide 5 trivial trivial trivial trivial rfl (by omega) (Tryz.evSorts _) (enters_of Tryz.func349 (by kernel_rfl) rfl) 421 #[.pointer (some ⟨Bm, 0, none⟩)] trivial (enters_of Tryz.func421 (by kernel_rfl) rfl) _ _ hmax hbytes _ hseq
theorem Tryz.evNilO (Bm : Nat) (w : World) (hBm : Bm < w.heap.size) (hm : w.cell? ⟨Bm, 0, none⟩ = some (.map none)) :
    Calls Tryz.prog 244 #[.func (.func 421) #[] #[.pointer (some ⟨Bm, 0, none⟩)]] w fun e w' => e = .returned (.slice none 0 0) ∧ Below w.heap.size w w' := by
  have hseq : SeqGives Fence.wide 2 Tryz.prog 421 #[.pointer (some ⟨Bm, 0, none⟩)] encStr (fun ss : List (List UInt8) => ss = []) 0 w :=
    AnyZ.keys_gives_nil (ρ := Tryz.keysO_ren) { Tryz.keysO with } Fence.wide _ trivial rfl Bm w hBm hm
  refine ((callsIn_wide (n := 5)).1 (AnyZ.sorted_in Tryz.sortedS Fence.wide 5 trivial trivial trivial trivial rfl (by omega) (Tryz.evSorts _) (enters_of Tryz.func349 (by kernel_rfl) rfl) 421 #[.pointer (some ⟨Bm, 0, none⟩)] trivial (enters_of Tryz.func421 (by kernel_rfl) rfl) _ _ (by decide) (by decide) _ hseq)).mono ?_
  rintro e w' ⟨v, ss, rfl, hss, _, hnil, hb⟩
  exact ⟨by rw [hnil.2 hss], hb⟩
set_option maxHeartbeats 1000000 in
/-- slices.Sorted at an iterator over a map's keys. -/
theorem Tryz.evSortedV {H : Type} {R : Value → Option (DataW H × List MemPlace)} (b nn Bm : Nat) (D0 : DataW H) (w : World) (hBm : Bm < w.heap.size) (hm : w.cell? ⟨Bm, 0, none⟩ = some (.map (some b))) (hown : w.ownsMap Tryz.prog 9 R b nn D0)
    (hmax : Maps.size D0 ≤ maxLen) (hbytes : Maps.size D0 * 16 ≤ 140737488355328) :
    Calls Tryz.prog 244 #[.func (.func 492) #[] #[.pointer (some ⟨Bm, 0, none⟩)]] w fun e w' => ∃ (v : Value) (ss : List (List UInt8)), e = .returned v ∧ ss.Perm (strKeys D0) ∧
      w'.ownsRow w.heap.size 9 1 v ss.length ((ss.mergeSort leB).map encStr) ∧ (v = .slice none 0 0 ↔ ss = []) ∧ Below w.heap.size w w' := by
  refine (callsIn_wide (n := 5)).1 ?_
  have hseq : SeqGives Fence.wide 2 Tryz.prog 492 #[.pointer (some ⟨Bm, 0, none⟩)] encStr (fun ss => ss.Perm (strKeys D0)) (Maps.size D0) w :=
    AnyZ.keys_gives (ρ := Tryz.keysV_ren) { Tryz.keysV with } Fence.wide _ trivial rfl (by omega) Bm b nn D0 _ hBm hm hown
  exact AnyZ.sorted_in Tryz.sortedS Fence.wide 5 trivial trivial trivial trivial rfl (by omega) (Tryz.evSorts _) (enters_of Tryz.func349 (by kernel_rfl) rfl) 492 #[.pointer (some ⟨Bm, 0, none⟩)] trivial (enters_of Tryz.func492 (by kernel_rfl) rfl) _ _ hmax hbytes _ hseq
theorem Tryz.evNilV (Bm : Nat) (w : World) (hBm : Bm < w.heap.size) (hm : w.cell? ⟨Bm, 0, none⟩ = some (.map none)) :
    Calls Tryz.prog 244 #[.func (.func 492) #[] #[.pointer (some ⟨Bm, 0, none⟩)]] w fun e w' => e = .returned (.slice none 0 0) ∧ Below w.heap.size w w' := by
  have hseq : SeqGives Fence.wide 2 Tryz.prog 492 #[.pointer (some ⟨Bm, 0, none⟩)] encStr (fun ss : List (List UInt8) => ss = []) 0 w :=
    AnyZ.keys_gives_nil (ρ := Tryz.keysV_ren) { Tryz.keysV with } Fence.wide _ trivial rfl Bm w hBm hm
  refine ((callsIn_wide (n := 5)).1 (AnyZ.sorted_in Tryz.sortedS Fence.wide 5 trivial trivial trivial trivial rfl (by omega) (Tryz.evSorts _) (enters_of Tryz.func349 (by kernel_rfl) rfl) 492 #[.pointer (some ⟨Bm, 0, none⟩)] trivial (enters_of Tryz.func492 (by kernel_rfl) rfl) _ _ (by decide) (by decide) _ hseq)).mono ?_
  rintro e w' ⟨v, ss, rfl, hss, _, hnil, hb⟩
  exact ⟨by rw [hnil.2 hss], hb⟩
set_option maxHeartbeats 1000000 in
/-- slices.Sorted at an iterator over a map's keys. -/
theorem Tryz.evSortedU {H : Type} {R : Value → Option (DataW H × List MemPlace)} (b nn Bm : Nat) (D0 : DataW H) (w : World) (hBm : Bm < w.heap.size) (hm : w.cell? ⟨Bm, 0, none⟩ = some (.map (some b))) (hown : w.ownsMap Tryz.prog 9 R b nn D0)
    (hmax : Maps.size D0 ≤ maxLen) (hbytes : Maps.size D0 * 16 ≤ 140737488355328) :
    Calls Tryz.prog 244 #[.func (.func 513) #[] #[.pointer (some ⟨Bm, 0, none⟩)]] w fun e w' => ∃ (v : Value) (ss : List (List UInt8)), e = .returned v ∧ ss.Perm (strKeys D0) ∧
      w'.ownsRow w.heap.size 9 1 v ss.length ((ss.mergeSort leB).map encStr) ∧ (v = .slice none 0 0 ↔ ss = []) ∧ Below w.heap.size w w' := by
  refine (callsIn_wide (n := 5)).1 ?_
  have hseq : SeqGives Fence.wide 2 Tryz.prog 513 #[.pointer (some ⟨Bm, 0, none⟩)] encStr (fun ss => ss.Perm (strKeys D0)) (Maps.size D0) w :=
    AnyZ.keys_gives (ρ := Tryz.keysU_ren) { Tryz.keysU with } Fence.wide _ trivial rfl (by omega) Bm b nn D0 _ hBm hm hown
  exact AnyZ.sorted_in Tryz.sortedS Fence.wide 5 trivial trivial trivial trivial rfl (by omega) (Tryz.evSorts _) (enters_of Tryz.func349 (by kernel_rfl) rfl) 513 #[.pointer (some ⟨Bm, 0, none⟩)] trivial (enters_of Tryz.func513 (by kernel_rfl) rfl) _ _ hmax hbytes _ hseq
theorem Tryz.evNilU (Bm : Nat) (w : World) (hBm : Bm < w.heap.size) (hm : w.cell? ⟨Bm, 0, none⟩ = some (.map none)) :
    Calls Tryz.prog 244 #[.func (.func 513) #[] #[.pointer (some ⟨Bm, 0, none⟩)]] w fun e w' => e = .returned (.slice none 0 0) ∧ Below w.heap.size w w' := by
  have hseq : SeqGives Fence.wide 2 Tryz.prog 513 #[.pointer (some ⟨Bm, 0, none⟩)] encStr (fun ss : List (List UInt8) => ss = []) 0 w :=
    AnyZ.keys_gives_nil (ρ := Tryz.keysU_ren) { Tryz.keysU with } Fence.wide _ trivial rfl Bm w hBm hm
  refine ((callsIn_wide (n := 5)).1 (AnyZ.sorted_in Tryz.sortedS Fence.wide 5 trivial trivial trivial trivial rfl (by omega) (Tryz.evSorts _) (enters_of Tryz.func349 (by kernel_rfl) rfl) 513 #[.pointer (some ⟨Bm, 0, none⟩)] trivial (enters_of Tryz.func513 (by kernel_rfl) rfl) _ _ (by decide) (by decide) _ hseq)).mono ?_
  rintro e w' ⟨v, ss, rfl, hss, _, hnil, hb⟩
  exact ⟨by rw [hnil.2 hss], hb⟩
end Go.Proofs

/-! ## EvSeatH -/
namespace Go.Proofs.YtjmapihogpdocaaGreatDoor
namespace Ev
open Go Go.Shelf
noncomputable section

def sortedF : List AVal → AMem → Out AVal := specOr (specSorted 350 9) (specOr (specSorted 421 9) (specOr (specSorted 492 9) (specSorted 513 9)))
def specsH (f : Nat) : Option (List AVal → AMem → Out AVal) :=
  match f with
  | 234 => some specPrefix
  | 244 => some sortedF
  | 511 => some (specSortedNil 544)
  | f => specs f
def seatH : Tab := tab specsH globs

theorem prefix_ok : CallOk seatH Tryz.prog 234 specPrefix :=
  specPrefix_ok (enters_of Tryz.func234 (by kernel_rfl) rfl) fun s p w => Any.strings_HasPrefix Tryz.evLays99 s p w
theorem sortedT_ok : CallOk seatH Tryz.prog 244 (specSorted 350 9) :=
  specSorted_ok (enters_of Tryz.func244 (by kernel_rfl) rfl) Tryz.underlying9 (fun b nn Bm D0 w h1 h2 h3 h4 h5 => Tryz.evSortedT b nn Bm D0 w h1 h2 h3 h4 h5) fun Bm w h1 h2 => Tryz.evNilT Bm w h1 h2
theorem sortedO_ok : CallOk seatH Tryz.prog 244 (specSorted 421 9) :=
  specSorted_ok (enters_of Tryz.func244 (by kernel_rfl) rfl) Tryz.underlying9 (fun b nn Bm D0 w h1 h2 h3 h4 h5 => Tryz.evSortedO b nn Bm D0 w h1 h2 h3 h4 h5) fun Bm w h1 h2 => Tryz.evNilO Bm w h1 h2
theorem sortedV_ok : CallOk seatH Tryz.prog 244 (specSorted 492 9) :=
  specSorted_ok (enters_of Tryz.func244 (by kernel_rfl) rfl) Tryz.underlying9 (fun b nn Bm D0 w h1 h2 h3 h4 h5 => Tryz.evSortedV b nn Bm D0 w h1 h2 h3 h4 h5) fun Bm w h1 h2 => Tryz.evNilV Bm w h1 h2
theorem sortedU_ok : CallOk seatH Tryz.prog 244 (specSorted 513 9) :=
  specSorted_ok (enters_of Tryz.func244 (by kernel_rfl) rfl) Tryz.underlying9 (fun b nn Bm D0 w h1 h2 h3 h4 h5 => Tryz.evSortedU b nn Bm D0 w h1 h2 h3 h4 h5) fun Bm w h1 h2 => Tryz.evNilU Bm w h1 h2
theorem sortedInt_ok : CallOk seatH Tryz.prog 511 (specSortedNil 544) := specSortedNil_ok (enters_of Tryz.func511 (by kernel_rfl) rfl) fun Bm w h1 h2 => Tryz.evNilI Bm w h1 h2
theorem sorted_ok : CallOk seatH Tryz.prog 244 sortedF := specOr_ok sortedT_ok (specOr_ok sortedO_ok (specOr_ok sortedV_ok sortedU_ok))

theorem specsH_ok : ∀ f F, seatH.spec f = some F → CallOk seatH Tryz.prog f F := by
  intro f F h
  have h : specsH f = some F := h
  unfold specsH at h
  split at h
  · cases h; exact prefix_ok
  · cases h; exact sorted_ok
  · cases h; exact sortedInt_ok
  · exact specs_ok f F h
theorem soundXH (k : Nat) (f : FuncId) : CallOk seatH Tryz.prog f (xFn seatH k f) := xFn_sound (tab_ok specsH globs) mixed specsH_ok k f

/-- The readers that recover. -/
def jwholeF : List AVal → AMem → Out AVal := evDef seatH (xFn seatH 1000) 3000 Tryz.f64
def twholeF : List AVal → AMem → Out AVal := evDef seatH (xFn seatH 1000) 3000 Tryz.f66
def cwholeF : List AVal → AMem → Out AVal := evDef seatH (xFn seatH 1000) 3000 Tryz.f145
theorem jwhole_ok : CallOk seatH Tryz.prog 64 jwholeF :=
  evDef_ok (tab_ok specsH globs) (soundXH 1000) (fun _ n => region_ok (tab_ok specsH globs) mixed (soundXH 1000) n) rfl
theorem twhole_ok : CallOk seatH Tryz.prog 66 twholeF :=
  evDef_ok (tab_ok specsH globs) (soundXH 1000) (fun _ n => region_ok (tab_ok specsH globs) mixed (soundXH 1000) n) rfl
theorem cwhole_ok : CallOk seatH Tryz.prog 145 cwholeF :=
  evDef_ok (tab_ok specsH globs) (soundXH 1000) (fun _ n => region_ok (tab_ok specsH globs) mixed (soundXH 1000) n) rfl

def specsT (f : Nat) : Option (List AVal → AMem → Out AVal) :=
  match f with
  | 64 => some jwholeF
  | 66 => some twholeF
  | 145 => some cwholeF
  | f => specsH f
def seatT : Tab := tab specsT globs
theorem specsT_ok : ∀ f F, seatT.spec f = some F → CallOk seatT Tryz.prog f F := by
  intro f F h
  have h : specsT f = some F := h
  unfold specsT at h
  split at h
  · cases h; exact jwhole_ok
  · cases h; exact twhole_ok
  · cases h; exact cwhole_ok
  · exact specsH_ok f F h
/-- THE EVALUATOR AT THIS SEAT, the readers included. -/
theorem soundXT (k : Nat) (f : FuncId) : CallOk seatT Tryz.prog f (xFn seatT k f) := xFn_sound (tab_ok specsT globs) mixed specsT_ok k f
end
end Ev
end Go.Proofs.YtjmapihogpdocaaGreatDoor
